import Derived.Test.YteccbihjkolpcaaLkG
import Derived.StillTailTactics
set_option linter.unusedVariables false
set_option linter.unusedSimpArgs false
namespace Go.Proofs.Yteccbihjkolpcaa
open Go.RowKit Go.Maps LockP

theorem take_mem {L : List H} {x h : H} (hh : h ∈ (LockP.take L x).1) : h ∈ L ∨ h = x := mem_take hh

def Loop1 (w1 : World) (l : List Act) (v : Value) (wr : World) : Prop :=
  ∃ (k : Nat) (L : List H), k ≤ l.length ∧ k ≤ 40 ∧ v = .int .i64 k ∧ Lk w1.heap.size w1 wr ⟨w1.heap.size, 0, none⟩ (3 * k) L ∧ (∀ h ∈ L, ∃ j y, j < k ∧ l[j]? = some y ∧ h.s = y.s)

def Loop2 (w1 : World) (l : List Act) (v : Value) (wr : World) : Prop :=
  ∃ (k : Nat) (L : List H), k ≤ l.length ∧ k ≤ 40 ∧ v = .int .i64 k ∧ Lk w1.heap.size w1 wr ⟨w1.heap.size, 0, none⟩ (120 + k) L ∧ (∀ h ∈ L, ∃ j y, k ≤ j ∧ j < 40 ∧ l[j]? = some y ∧ h.s = y.s)

theorem free_walk (w : World) (A : Option Addr) (cap : Nat) (l : List Act) (x : Act) (hl : l.length ≤ 9223372036854775807) (hA : ReadsA w A l) (hw : ∀ y ∈ l, WfA y) (hx : WfA x) :
    Calls Try.prog 6 #[.slice A l.length cap, .agg #[.int .i64 x.what, .int .i64 x.s, .int .i64 x.t, .int .i64 x.r]] w fun e w' => e = .returned (.bool true) ∧ Below w.heap.size w w' := by
  have HA := Lib.hid hA
  have HW := Lib.hid hw
  clear hA hw
  go_enter Try.func6, Try.ntmps6
  go_wp2_with (go_at_call 7; refine (speaks_any _).mono ?_; rintro e w1 ⟨rfl, hb1⟩)
  have hb : Below (w.heap.size + 1) (w.alloc (.cells #[.int .i64 x.what, .int .i64 x.s, .int .i64 x.t, .int .i64 x.r] 34)) w1 := by simpa using hb1
  have hbw1 : Below w.heap.size w w1 := ((Below.refl _ _).alloc (Nat.le_refl _) _).trans (hb.mono (by omega))
  have hw1 : w.heap.size < w1.heap.size := by have := hb.size; simp at this; omega
  have b1 : w1.cell? ⟨w.heap.size, 1, none⟩ = some (.int .i64 x.s) := (hb.cell (by simp)).trans (by simp)
  have b2 : w1.cell? ⟨w.heap.size, 2, none⟩ = some (.int .i64 x.t) := (hb.cell (by simp)).trans (by simp)
  have b3 : w1.cell? ⟨w.heap.size, 3, none⟩ = some (.int .i64 x.r) := (hb.cell (by simp)).trans (by simp)
  clear hb1
  go_loopw [6] (fun i wr => Loop1 w1 l i wr) (fun i _ => l.length - (intOf i).toNat)
  case atStart => exact ⟨0, [], Nat.zero_le _, Nat.zero_le _, rfl, lk_new _ _ _ (Below.refl _ _) (Nat.le_refl _), fun h hh => by simp at hh⟩
  case round =>
    obtain ⟨k, L, hk, hk40, rfl, hlk, hL⟩ := hrel
    have HL := Lib.hid hL
    clear hL
    by_cases hlt : k < l.length ∧ k < 40
    · obtain ⟨h1, h2⟩ := hlt
      obtain ⟨y, hy⟩ : ∃ y, l[k]? = some y := ⟨l[k], by simp [h1]⟩
      obtain ⟨ad, rfl, c0, c1, c2, c3⟩ := HA.out k y hy
      have wy := HW.out y (List.mem_of_getElem? hy)
      have HY := Lib.hid hy
      clear hy
      have h2' : (k : Int) < 40 := by omega
      have h1' : (k : Int) < (l.length : Int) := by omega
      have hbo := hbw1.trans (hlk.bel.mono hbw1.size)
      have d0 := old hbo c0
      have d1 := old hbo c1
      have d2 := old hbo c2
      have d3 := old hbo c3
      go_wp2_with fail
      go_still_tail 10, (by kernel_rfl)
      change wpList _ _ _ _ _ wr.drew
      go_wp2_with fail
      refine (read_lk hlk.drew y.s y.t wy.2.1 wy.2.2.1 (by omega)).mono ?_
      rintro e w2 ⟨rfl, hlk2⟩
      have hbo2 := hbw1.trans (hlk2.bel.mono hbw1.size)
      have e0 := old hbo2 c0
      have e1 := old hbo2 c1
      have e2 := old hbo2 c2
      have e3 := old hbo2 c3
      go_wp2_with fail
      go_still_tail 15, (by kernel_rfl)
      change wpList _ _ _ _ _ w2.drew
      go_wp2_with fail
      refine (write_lk hlk2.drew y.s y.t y.r wy.2.1 wy.2.2.1 wy.2.2.2 (by omega)).mono ?_
      rintro e w3 ⟨rfl, hlk3⟩
      have hbo3 := hbw1.trans (hlk3.bel.mono hbw1.size)
      have f0 := old hbo3 c0
      have f1 := old hbo3 c1
      have f2 := old hbo3 c2
      go_wp2_with fail
      · go_still_tail 10, (by kernel_rfl)
        change wpList _ _ _ _ _ w3.drew
        go_wp2_with fail
        refine (alone_lk hlk3.drew y.s y.t wy.2.1 wy.2.2.1 (by omega)).mono ?_
        rintro e w4 ⟨rfl, hlk4⟩
        go_wp2_with fail
        go_roundw
        case rel =>
          refine ⟨k + 1, _, by omega, by omega, by go_num, hlk4.mono (by omega), fun h hh => ?_⟩
          rcases mem_take hh with hh | rfl
          · rcases mem_take hh with hh | rfl
            · rcases mem_take hh with hh | rfl
              · obtain ⟨j, z, q1, q2, q3⟩ := HL.out h hh
                exact ⟨j, z, by omega, q2, q3⟩
              · exact ⟨k, y, by omega, HY.out, rfl⟩
            · exact ⟨k, y, by omega, HY.out, rfl⟩
          · exact ⟨k, y, by omega, HY.out, rfl⟩
        case measure => simp [intOf]; omega
      · go_roundw
        case rel =>
          refine ⟨k + 1, _, by omega, by omega, by go_num, hlk3.mono (by omega), fun h hh => ?_⟩
          rcases mem_take hh with hh | rfl
          · rcases mem_take hh with hh | rfl
            · obtain ⟨j, z, q1, q2, q3⟩ := HL.out h hh
              exact ⟨j, z, by omega, q2, q3⟩
            · exact ⟨k, y, by omega, HY.out, rfl⟩
          · exact ⟨k, y, by omega, HY.out, rfl⟩
        case measure => simp [intOf]; omega
    · have HK : Hid (l.length ≤ 40 ∧ k = l.length ∨ 40 < l.length ∧ k = 40 ∨ l.length = 40 ∧ k = 40) := by unfold Hid; omega
      have hex : l.length ≤ k ∨ (k < l.length ∧ (40 : Int) ≤ (k : Int)) := by omega
      clear hlt
      obtain ⟨wo, rfl⟩ : ∃ wo, wo = wr := ⟨_, rfl⟩
      have hL2 : Loop2 w1 l (.int .i64 0) wo := ⟨0, L, Nat.zero_le _, Nat.zero_le _, rfl, hlk.mono (by omega), fun h hh => by
        obtain ⟨j, z, q1, q2, q3⟩ := HL.out h hh
        exact ⟨j, z, Nat.zero_le _, by omega, q2, q3⟩⟩
      rcases hex with h1 | ⟨h1, h2⟩
      all_goals
        clear hlk HL
        go_wp2_with fail
        go_loopw [7] (fun i wr => Loop2 w1 l i wr) (fun i _ => l.length - (intOf i).toNat)
        case atStart => exact hL2
        case round =>
          clear hL2
          obtain ⟨k2, L2, hk2, hk240, rfl, hlk2, hL2⟩ := hrel
          have HL := Lib.hid hL2
          clear hL2
          by_cases hlt : k2 < l.length ∧ k2 < 40
          · obtain ⟨g1, g2⟩ := hlt
            obtain ⟨y, hy⟩ : ∃ y, l[k2]? = some y := ⟨l[k2], by simp [g1]⟩
            obtain ⟨ad, rfl, c0, c1, c2, c3⟩ := HA.out k2 y hy
            have wy := HW.out y (List.mem_of_getElem? hy)
            have HY := Lib.hid hy
            clear hy
            have g2' : (k2 : Int) < 40 := by omega
            have hbo := hbw1.trans (hlk2.bel.mono hbw1.size)
            have d1 := old hbo c1
            go_wp2_with fail
            refine (release_lk hlk2 y.s wy.2.1 (by omega)).mono ?_
            rintro e w3 ⟨rfl, hlk3⟩
            go_wp2_with fail
            go_roundw
            case rel =>
              refine ⟨k2 + 1, _, by omega, by omega, by go_num, hlk3.mono (by omega), fun h hh => ?_⟩
              obtain ⟨hh, hn⟩ := mem_without.1 hh
              obtain ⟨j, z, q1, q2, q3, q4⟩ := HL.out h hh
              refine ⟨j, z, ?_, q2, q3, q4⟩
              by_cases hj : j = k2
              · subst hj
                rw [HY.out] at q3
                cases q3
                exact absurd q4 hn
              · omega
            case measure => simp [intOf]; omega
          · have hex2 : l.length ≤ k2 ∨ (k2 < l.length ∧ (40 : Int) ≤ (k2 : Int)) := by omega
            have hnil : L2 = [] := by
              rcases L2 with _ | ⟨h, L2⟩
              · rfl
              · obtain ⟨j, z, q1, q2, q3, q4⟩ := HL.out h (by simp)
                have := (List.getElem?_eq_some_iff.1 q3).1
                omega
            subst hnil
            have t1 : LockP.take [] ⟨x.s, x.t, 2, 0⟩ = ([⟨x.s, x.t, 2, 0⟩], 0) := rfl
            have t2 : held [⟨x.s, x.t, 2, 0⟩] x.s = 1 := by simp [held]
            have t3 : LockP.take [⟨x.s, x.t, 2, 0⟩] ⟨x.s, x.t, 1, x.r⟩ = ([⟨x.s, x.t, 2, 0⟩, ⟨x.s, x.t, 1, x.r⟩], 0) := by simp [LockP.take, conflict, add]
            have t4 : held [⟨x.s, x.t, 2, 0⟩, ⟨x.s, x.t, 1, x.r⟩] x.s = 2 := by simp [held]
            have T1 := Lib.hid t1
            have T2 := Lib.hid t2
            have T3 := Lib.hid t3
            have T4 := Lib.hid t4
            clear t1 t2 t3 t4 hlt HL
            rcases hex2 with g1 | ⟨g1, g2⟩
            all_goals try (exfalso; omega)
            all_goals
              have x1 := (hlk2.bel.cell (p := ⟨w.heap.size, 1, none⟩) hw1).trans b1
              have x2 := (hlk2.bel.cell (p := ⟨w.heap.size, 2, none⟩) hw1).trans b2
              go_wp2_with fail
              refine (alone_lk hlk2 x.s x.t hx.2.1 hx.2.2.1 (by omega)).mono ?_
              rw [T1.out]
              rintro e w3 ⟨rfl, hlk3⟩
              have y1 := (hlk3.bel.cell (p := ⟨w.heap.size, 1, none⟩) hw1).trans b1
              have y2 := (hlk3.bel.cell (p := ⟨w.heap.size, 2, none⟩) hw1).trans b2
              have y3 := (hlk3.bel.cell (p := ⟨w.heap.size, 3, none⟩) hw1).trans b3
              go_wp2_with fail
              refine (held_lk hlk3 x.s hx.2.1).mono ?_
              rw [T2.out]
              rintro e w4 ⟨rfl, rfl⟩
              go_wp2_with fail
              refine (write_lk hlk3 x.s x.t x.r hx.2.1 hx.2.2.1 hx.2.2.2 (by omega)).mono ?_
              rw [T3.out]
              rintro e w5 ⟨rfl, hlk5⟩
              have z1 := (hlk5.bel.cell (p := ⟨w.heap.size, 1, none⟩) hw1).trans b1
              go_wp2_with fail
              refine (release_lk hlk5 x.s hx.2.1 (by omega)).mono ?_
              rw [T4.out]
              rintro e w6 ⟨rfl, hlk6⟩
              go_wp2_with fail
              go_ret
              exact ⟨rfl, hbw1.trans (hlk6.bel.mono hbw1.size)⟩
end Go.Proofs.Yteccbihjkolpcaa

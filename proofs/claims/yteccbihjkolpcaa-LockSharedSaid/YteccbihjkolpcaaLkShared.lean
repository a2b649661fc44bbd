import Derived.Test.YteccbihjkolpcaaLkW
import Derived.StillTailTactics
import Derived.Deep.RegionHeld3
import Derived.Deep.QuietTactic
import Derived.BigQuiet
set_option linter.unusedVariables false
set_option linter.unusedSimpArgs false
namespace Go.Proofs.Yteccbihjkolpcaa
open Go.RowKit Go.Maps LockP

def ShL (w1 : World) (l : List Int) (t : Int) (v : Value) (wr : World) : Prop :=
  ∃ (k : Nat) (L M : List H), k ≤ l.length ∧ k ≤ 20 ∧ v = .int .i64 k ∧ Two w1.heap.size w1 wr ⟨w1.heap.size, 0, none⟩ ⟨w1.heap.size + 1, 0, none⟩ (2 * k) L M ∧ Readers l t k L ∧ Writers l t k M

theorem Below.of_drewN (B : Nat) (w : World) (n : Nat) : Below B w (w.drewN n) := ⟨rfl, rfl, rfl, Nat.le_refl _, fun _ _ => rfl⟩

set_option maxRecDepth 100000 in
theorem shared_walk (w : World) (A : Option Addr) (cap : Nat) (l : List Int) (t : Int) (hl : l.length ≤ 9223372036854775807) (hA : ReadsI w A l) (hw : ∀ y ∈ l, wf y) (wt : wf t) :
    Calls Try.prog 3 #[.slice A l.length cap, .int .i64 t] w fun e w' => e = .returned (.bool true) ∧ Below w.heap.size w w' := by
  have HA := Lib.hid hA
  have HW := Lib.hid hw
  clear hA hw
  go_enter Try.func3, Try.ntmps3
  go_wp2_with (go_at_call 7; refine (speaks_any _).mono ?_; rintro e w1 ⟨rfl, hbw1⟩)
  go_loopw [7] (fun i wr => ShL w1 l t i wr) (fun i _ => l.length - (intOf i).toNat)
  case atStart => exact ⟨0, [], [], Nat.zero_le _, Nat.zero_le _, rfl, two_new _ _ _ (Below.refl _ _) (Nat.le_refl _), ⟨fun h hh => by simp at hh, fun j s hj => by omega⟩, ⟨fun h hh => by simp at hh, fun j s hj => by omega⟩⟩
  case round =>
    obtain ⟨k, L, M, hk, hk40, rfl, htw, hL, hM⟩ := hrel
    have HL := Lib.hid hL
    have HM := Lib.hid hM
    clear hL hM
    by_cases hlt : k < l.length ∧ k < 20
    · obtain ⟨h1, h2⟩ := hlt
      obtain ⟨s, hs⟩ : ∃ y, l[k]? = some y := ⟨l[k], by simp [h1]⟩
      obtain ⟨ad, rfl, c0⟩ := HA.out k s hs
      have ws := HW.out s (List.mem_of_getElem? hs)
      obtain ⟨r1, HL'⟩ := readers_step HL.out hs
      obtain ⟨r2, HM'⟩ := writers_step HM.out hs
      have R1 := Lib.hid r1
      have R2 := Lib.hid r2
      have HL1 := Lib.hid HL'
      have HM1 := Lib.hid HM'
      clear hs r1 r2 HL' HM'
      have h2' : (k : Int) < 20 := by omega
      have hbo := hbw1.trans (htw.bel.mono hbw1.size)
      have d0 := old hbo c0
      go_wp2_with fail
      go_region_held3 (fun w' => w'.cell? (ad.add k) = some (.int .i64 s)) (first | exact d0 | exact old (hbw1.trans ((by assumption : Two _ _ _ _ _ _ _ _).bel.mono hbw1.size)) c0) (first
        | (go_at_call 8; refine (read_two htw.drew s t ws wt (by omega)).mono ?_; rw [R1.out]; rintro e w2 ⟨rfl, htw2⟩)
        | (go_at_call 9; refine (write_two' htw2 s t s ws wt ws (by omega)).mono ?_; rw [R2.out]; rintro e w3 ⟨rfl, htw3⟩))
      go_wp2_with fail
      go_roundw
      case rel => exact ⟨k + 1, _, _, by omega, by omega, by go_num, by have := htw3; exact this, HL1.out, HM1.out⟩
      case measure => simp [intOf]; omega
    · have HK : Hid (l.length ≤ 20 ∧ k = l.length ∨ 20 < l.length ∧ k = 20 ∨ l.length = 20 ∧ k = 20) := by unfold Hid; omega
      have hex : l.length ≤ k ∨ (k < l.length ∧ (20 : Int) ≤ (k : Int)) := by omega
      clear hlt
      obtain ⟨wo, rfl⟩ : ∃ wo, wo = wr := ⟨_, rfl⟩
      rcases hex with h1 | ⟨h1, h2⟩
      all_goals
        go_wp2_with fail
        go_loopw [8, 9] (fun i _ wr => ∃ j : Nat, j ≤ k ∧ i = .int .i64 j ∧ Two w1.heap.size w1 wr ⟨w1.heap.size, 0, none⟩ ⟨w1.heap.size + 1, 0, none⟩ (2 * k + 2 * j) L M) (fun i _ _ => k - (intOf i).toNat)
        case atStart => exact ⟨0, Nat.zero_le _, rfl, htw⟩
        case round =>
          obtain ⟨j, hj, rfl, htw2⟩ := hrel
          clear htw
          by_cases hjk : j < k
          · have hjl : j < l.length := by omega
            obtain ⟨s, hs⟩ : ∃ y, l[j]? = some y := ⟨l[j], by simp [hjl]⟩
            obtain ⟨ad, rfl, c0⟩ := HA.out j s hs
            have ws := HW.out s (List.mem_of_getElem? hs)
            have HS := Lib.hid hs
            clear hs
            have g2' : (j : Int) < 20 := by omega
            have g1' : (j : Int) < (l.length : Int) := by omega
            have hbo := hbw1.trans (htw2.bel.mono hbw1.size)
            have d0 := old hbo c0
            obtain ⟨wj, rfl⟩ : ∃ wj, wj = wr := ⟨_, rfl⟩
            go_wp2_with fail
            go_loopw [9, 10] (fun al i wi => ∃ m : Nat, m ≤ k ∧ i = .int .i64 m ∧ al = .bool (same l m s) ∧ Two w1.heap.size w1 wi ⟨w1.heap.size, 0, none⟩ ⟨w1.heap.size + 1, 0, none⟩ (2 * k + 2 * j) L M) (fun _ i _ => k - (intOf i).toNat)
            case atStart => exact ⟨0, Nat.zero_le _, rfl, rfl, htw2⟩
            case round =>
              clear htw2
              obtain ⟨m, hm, rfl, rfl, htw3⟩ := hrel
              by_cases hmk : m < k
              · have hml : m < l.length := by omega
                obtain ⟨z, hz⟩ : ∃ y, l[m]? = some y := ⟨l[m], by simp [hml]⟩
                obtain ⟨ad', ead, e0⟩ := HA.out m z hz
                cases ead
                have hst : same l (m + 1) s = (same l m s && decide (z = s)) := by
                  unfold same
                  rw [List.take_add_one, hz]
                  simp
                have HST := Lib.hid hst
                clear hst hz
                have g2'' : (m : Int) < 20 := by omega
                have g1'' : (m : Int) < (l.length : Int) := by omega
                have hbo3 := hbw1.trans (htw3.bel.mono hbw1.size)
                have d1 := old hbo3 c0
                have d2 := old hbo3 e0
                cases hsm : same l m s
                · have HSM := Lib.hid hsm
                  clear hsm
                  go_wp2_with fail
                  go_quiet (fail)
                  go_wp2_with fail
                  go_roundw
                  case rel => exact ⟨m + 1, by omega, by go_num, by rw [HST.out, HSM.out]; rfl, by obtain ⟨F, G, q1, q2, q3, q4, q5, q6, q7⟩ := htw3; exact ⟨F, G, q1.below (Below.of_drewN _ _ _), q2.below (Below.of_drewN _ _ _), q3, q4, q5, q6.trans (Below.of_drewN _ _ _), q7⟩⟩
                  case measure => simp [intOf]; omega
                · have HSM := Lib.hid hsm
                  clear hsm
                  go_wp2_with fail
                  go_quiet (fail)
                  go_wp2_with fail
                  go_roundw
                  case rel => exact ⟨m + 1, by omega, by go_num, by rw [HST.out, HSM.out]; rfl, by obtain ⟨F, G, q1, q2, q3, q4, q5, q6, q7⟩ := htw3; exact ⟨F, G, q1.below (Below.of_drewN _ _ _), q2.below (Below.of_drewN _ _ _), q3, q4, q5, q6.trans (Below.of_drewN _ _ _), q7⟩⟩
                  case measure => simp [intOf]; omega
              · obtain rfl : m = k := by omega
                have hk20 : m ≤ 20 := hk40
                have hbo3 := hbw1.trans (htw3.bel.mono hbw1.size)
                have d1 := old hbo3 c0
                cases hsm : same l m s
                · have e1 := readers_write (r := 1) (s := s) HL.out
                  have e2 := writers_read (s := s) HM.out
                  rw [hsm] at e1 e2
                  simp only [Bool.false_eq_true, if_false] at e1 e2
                  have E1 := Lib.hid e1
                  have E2 := Lib.hid e2
                  clear e1 e2 hsm
                  go_wp2_with fail
                  refine (write_two htw3 s t 1 ws wt wf1 (by omega)).mono ?_
                  rw [E1.out]
                  rintro e w4 ⟨rfl, htw4⟩
                  have d4 := old (hbw1.trans (htw4.bel.mono hbw1.size)) c0
                  go_wp2_with fail
                  refine (read_two' htw4 s t ws wt (by omega)).mono ?_
                  rw [E2.out]
                  rintro e w5 ⟨rfl, htw5⟩
                  go_wp2_with fail
                  go_roundw
                  case rel => exact ⟨j + 1, by omega, by go_num, by rw [show 2 * m + 2 * (j + 1) = 2 * m + 2 * j + 1 + 1 by omega]; exact htw5⟩
                  case measure => simp [intOf]; omega
                · have e1 := readers_write (r := 1) (s := s) HL.out
                  have e2 := writers_read (s := s) HM.out
                  have e3 := readers_alone (r := 1) HL.out hsm
                  rw [hsm] at e1 e2
                  simp only [if_true] at e1 e2
                  have E1 := Lib.hid e1
                  have E2 := Lib.hid e2
                  have E3 := Lib.hid e3
                  clear e1 e2 e3 hsm
                  go_wp2_with fail
                  refine (write_two htw3 s t 1 ws wt wf1 (by omega)).mono ?_
                  rw [E1.out]
                  rintro e w4 ⟨rfl, htw4⟩
                  have d4 := old (hbw1.trans (htw4.bel.mono hbw1.size)) c0
                  go_wp2_with fail
                  refine (read_two' htw4 s t ws wt (by omega)).mono ?_
                  rw [E2.out]
                  rintro e w5 ⟨rfl, htw5⟩
                  have d5 := old (hbw1.trans (htw5.bel.mono hbw1.size)) c0
                  go_wp2_with fail
                  refine (alone_two htw5 s t ws wt (by omega)).mono ?_
                  rw [E3.out]
                  rintro e w6 ⟨rfl, htw6⟩
                  go_wp2_with fail
                  go_ret
                  exact ⟨rfl, hbw1.trans (htw6.bel.mono hbw1.size)⟩
          · obtain rfl : j = k := by omega
            go_wp2_with fail
            go_ret
            exact ⟨rfl, hbw1.trans (htw2.bel.mono hbw1.size)⟩
end Go.Proofs.Yteccbihjkolpcaa

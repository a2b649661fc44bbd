import Derived.Test.YteccbihjkolpcaaLkAl
import Derived.StillTailTactics
set_option linter.unusedVariables false
set_option linter.unusedSimpArgs false
namespace Go.Proofs.Yteccbihjkolpcaa
open Go.RowKit Go.Maps LockP Go.Proofs.YteccbihjkolpcaaW.PrintWords

def ss (l : List Act) (k : Nat) : List Int := (l.take k).map (·.s)
theorem ss_succ {l : List Act} {k : Nat} {y : Act} (h : l[k]? = some y) : ss l (k + 1) = ss l k ++ [y.s] := by
  unfold ss
  rw [List.take_add_one, h]
  simp
theorem ss_length {l : List Act} {k : Nat} (h : k ≤ l.length) : (ss l k).length = k := by simp [ss]; omega

def AlL (w1 : World) (l : List Act) (v8 v9 : Value) (wr : World) : Prop :=
  ∃ (k : Nat) (L : List H), k ≤ l.length ∧ k ≤ 40 ∧ v9 = .int .i64 k ∧ Al w1 wr ⟨w1.heap.size, 0, none⟩ k L (Of v8) ∧ Row w1 wr v8 (ss l k) ∧ ∀ h ∈ L, h.s ∈ ss l k

def AlM (w1 : World) (bs : Nat) (S : List Int) (t r : Int) (v8 v10 v12 : Value) (wr : World) : Prop :=
  ∃ (i c : Nat) (L : List H), i ≤ S.length ∧ v12 = .int .i64 i ∧ v10 = .int .i64 c ∧ c ≤ 1 ∧ Al w1 wr ⟨w1.heap.size, 0, none⟩ (40 + i) L (fun b => Of v8 b ∨ b = bs) ∧ Row w1 wr v8 S ∧ Seen wr bs (S.take i) ∧ OneW L t r (S.take i) c ∧ ∀ h ∈ L, h.s ∈ S
def AlN (w1 : World) (S : List Int) (v8 v13 : Value) (wr : World) : Prop :=
  ∃ (i : Nat) (L : List H), i ≤ S.length ∧ v13 = .int .i64 i ∧ Al w1 wr ⟨w1.heap.size, 0, none⟩ (80 + 2 * i) L (Of v8) ∧ Row w1 wr v8 S ∧ ∀ h ∈ L, h.s ∈ S ∧ h.s ∉ S.take i
theorem take_succ_mem {S : List Int} {i : Nat} {x : Int} (h : S[i]? = some x) : S.take (i + 1) = S.take i ++ [x] := by rw [List.take_add_one, h]; rfl
theorem seen_again {w : World} {bs : Nat} {xs : List Int} {x : Int} (h : Seen w bs xs) (hx : x ∈ xs) : Seen w bs (xs ++ [x]) := by
  obtain ⟨D, h1, h2, h3⟩ := h
  refine ⟨D, h1, by simp; omega, fun s ws => ?_⟩
  rw [h3 s ws]
  by_cases hs : s ∈ xs
  · simp [hs]
  · have : s ≠ x := fun e => hs (e ▸ hx)
    simp [hs, this]

theorem row_ne {w1 w : World} {v : Value} {xs : List Int} {k : TypeId} {R : Value → Option (DataW Unit × List MemPlace)} {b n : Nat} {D : DataW Unit} (h : Row w1 w v xs) (hm : w.ownsMap Try.prog k R b n D) (i : Nat) (hi : Of v i) : i ≠ b := by
  rintro rfl
  obtain ⟨cells, hc⟩ := own_typed h i hi
  obtain ⟨es, clock, hb, _⟩ := hm
  rw [hc] at hb
  cases hb

/-- What the append does. -/
theorem al_append {w1 w2 w3 : World} {a : Addr} {N : Nat} {L : List H} {v8 v1 : Value} {xs ys : List Int} (hal : Al w1 w2 a N L (Of v8)) (hrow : Row w1 w2 v8 xs) (hown : Row w1 w3 v1 ys) (hg : w2.grownBy w3 v8.ownBlock)
    (hloc : v1.ownBlock = v8.ownBlock ∨ ∃ b, v1.ownBlock = some b ∧ w2.heap.size ≤ b) : Al w1 w3 a N L (Of v1) :=
  hal.grown hg (fun b hb => Or.inl ⟨hb, own_base hrow b hb⟩) (fun i hi => ⟨by
    rcases hloc with h | ⟨b, h, hb⟩
    · exact Or.inl (h.symm.trans hi)
    · have := h.symm.trans hi
      cases this
      exact Or.inr hb, own_lt hown i hi⟩)

set_option maxHeartbeats 1600000 in
set_option maxRecDepth 100000 in
theorem alone_walk (w : World) (A : Option Addr) (cap : Nat) (l : List Act) (t r : Int) (hl : l.length ≤ 9223372036854775807) (hA : ReadsA w A l) (hw : ∀ y ∈ l, WfA y) (wt : wf t) (wr_ : wf r) :
    Calls Try.prog 5 #[.slice A l.length cap, .int .i64 t, .int .i64 r] w fun e w' => e = .returned (.bool true) ∧ Below w.heap.size w w' := by
  have HA := Lib.hid hA
  have HW := Lib.hid hw
  clear hA hw
  have hmm := @run_makeMap Try.prog
  go_enter Try.func5, Try.ntmps5
  go_wp2_with (go_at_call 7; refine (speaks_any _).mono ?_; rintro e w1 ⟨rfl, hbw1⟩)
  go_loopw [8, 9] (fun v i wr => AlL w1 l v i wr) (fun _ i _ => l.length - (intOf i).toNat)
  case atStart => exact ⟨0, [], Nat.zero_le _, Nat.zero_le _, rfl, (al_new w1).grown (row := none) (World.grownBy.refl _ _) (fun b hb => by cases hb) (fun i hi => by simp [Of, Value.ownBlock] at hi), own_nil _ _ _ _, fun h hh => by simp at hh⟩
  case round =>
    obtain ⟨k, L, hk, hk40, rfl, hal, hrow, hL⟩ := hrel
    have HL := Lib.hid hL
    clear hL
    by_cases hlt : k < l.length ∧ k < 40
    · obtain ⟨h1, h2⟩ := hlt
      obtain ⟨y, hy⟩ : ∃ y, l[k]? = some y := ⟨l[k], by simp [h1]⟩
      obtain ⟨ad, rfl, c0, c1, c2, c3⟩ := HA.out k y hy
      have wy := HW.out y (List.mem_of_getElem? hy)
      have HS := Lib.hid (ss_succ hy)
      have HN := Lib.hid (ss_length hk)
      clear hy
      have h2' : (k : Int) < 40 := by omega
      have hbo := hbw1.trans (hal.bel.mono hbw1.size)
      have d0 := old hbo c0
      have d1 := old hbo c1
      have d2 := old hbo c2
      have d3 := old hbo c3
      go_wp2_with fail
      · go_still_tail 10, (by kernel_rfl)
        change wpList _ _ _ _ _ wr.drew
        go_wp2_with fail
        refine (read_al hal.drew y.s y.t wy.2.1 wy.2.2.1 (by omega)).mono ?_
        rintro e w2 ⟨rfl, hal2, hkp⟩
        have hrow2 : Row w1 w2 _ (ss l k) := hrow.move hkp
        have e1 := old (hbw1.trans (hal2.bel.mono hbw1.size)) c1
        go_wp2_with (first
          | (at_builtin; refine print_append_num (w0 := w1) (W := w2) w1.heap.size rfl (.tmp 77) (.tmp 83) 22 3 .i64 8 rfl Try.underlying22 info3 (by decide) u8 (ss l k) y.s rfl rfl hrow2 hal2.bel hal2.bel.size (by rw [HN.out]; omega) ?_; intro v1 w3 hown hB3 hg3 hloc3)
          | fail)
        go_roundw
        case rel =>
          refine ⟨k + 1, _, by omega, by omega, by go_num, al_append hal2 hrow2 hown hg3 hloc3, by rw [HS.out]; exact hown, fun h hh => ?_⟩
          rw [HS.out]
          rcases mem_take hh with hh | rfl
          · exact List.mem_append.2 (Or.inl (HL.out h hh))
          · simp
        case measure => simp [intOf]; omega
      · go_still_tail 15, (by kernel_rfl)
        change wpList _ _ _ _ _ wr.drew
        go_wp2_with fail
        refine (write_al hal.drew y.s y.t y.r wy.2.1 wy.2.2.1 wy.2.2.2 (by omega)).mono ?_
        rintro e w2 ⟨rfl, hal2, hkp⟩
        have hrow2 : Row w1 w2 _ (ss l k) := hrow.move hkp
        have e1 := old (hbw1.trans (hal2.bel.mono hbw1.size)) c1
        go_wp2_with (first
          | (at_builtin; refine print_append_num (w0 := w1) (W := w2) w1.heap.size rfl (.tmp 77) (.tmp 83) 22 3 .i64 8 rfl Try.underlying22 info3 (by decide) u8 (ss l k) y.s rfl rfl hrow2 hal2.bel hal2.bel.size (by rw [HN.out]; omega) ?_; intro v1 w3 hown hB3 hg3 hloc3)
          | fail)
        go_roundw
        case rel =>
          refine ⟨k + 1, _, by omega, by omega, by go_num, al_append hal2 hrow2 hown hg3 hloc3, by rw [HS.out]; exact hown, fun h hh => ?_⟩
          rw [HS.out]
          rcases mem_take hh with hh | rfl
          · exact List.mem_append.2 (Or.inl (HL.out h hh))
          · simp
        case measure => simp [intOf]; omega
      · go_still_tail 10, (by kernel_rfl)
        change wpList _ _ _ _ _ wr.drew
        go_wp2_with fail
        refine (alone_al hal.drew y.s y.t wy.2.1 wy.2.2.1 (by omega)).mono ?_
        rintro e w2 ⟨rfl, hal2, hkp⟩
        have hrow2 : Row w1 w2 _ (ss l k) := hrow.move hkp
        have e1 := old (hbw1.trans (hal2.bel.mono hbw1.size)) c1
        go_wp2_with (first
          | (at_builtin; refine print_append_num (w0 := w1) (W := w2) w1.heap.size rfl (.tmp 77) (.tmp 83) 22 3 .i64 8 rfl Try.underlying22 info3 (by decide) u8 (ss l k) y.s rfl rfl hrow2 hal2.bel hal2.bel.size (by rw [HN.out]; omega) ?_; intro v1 w3 hown hB3 hg3 hloc3)
          | fail)
        go_roundw
        case rel =>
          refine ⟨k + 1, _, by omega, by omega, by go_num, al_append hal2 hrow2 hown hg3 hloc3, by rw [HS.out]; exact hown, fun h hh => ?_⟩
          rw [HS.out]
          rcases mem_take hh with hh | rfl
          · exact List.mem_append.2 (Or.inl (HL.out h hh))
          · simp
        case measure => simp [intOf]; omega
    · have hex : l.length ≤ k ∨ (k < l.length ∧ (40 : Int) ≤ (k : Int)) := by omega
      clear hlt
      obtain ⟨A8, c8, hv8⟩ := hrow.reads
      subst hv8
      have HWS : Hid (∀ s ∈ ss l k, wf s) := Lib.hid fun s hs => by
        obtain ⟨y, hy, rfl⟩ := List.mem_map.1 hs
        exact (HW.out y (List.mem_of_mem_take hy)).2.1
      have hn : (ss l k).length ≤ 40 := by rw [ss_length hk]; exact hk40
      have hkl := ss_length hk
      generalize hS : ss l k = S at *
      have HKL := Lib.hid hkl
      clear hS hkl
      obtain ⟨wo, rfl⟩ : ∃ wo, wo = wr := ⟨_, rfl⟩
      have hbwo := hbw1.trans (hal.bel.mono hbw1.size)
      have hbwM := hal.bel.size
      rcases hex with h1 | ⟨h1, h2⟩
      all_goals
        go_wp2_with fail
        have hgm := World.grownBy_alloc wo (.map #[] 0) none
        have hal0 : Al w1 (wo.alloc (.map #[] 0)) ⟨w1.heap.size, 0, none⟩ (40 + 0) L (fun b => Of (.slice A8 S.length c8) b ∨ b = wo.heap.size) :=
          (hal.mono (by omega)).grown hgm (fun b hb => by cases hb) (fun i hi => by
            rcases hi with hi | rfl
            · exact ⟨Or.inl hi, by have := own_lt hrow i hi; simp; omega⟩
            · exact ⟨Or.inr (Nat.le_refl _), by simp⟩)
        have hrow0 : Row w1 (wo.alloc (.map #[] 0)) (.slice A8 S.length c8) S := hrow.move (fun k hk => hgm.block k (own_lt hrow k hk) (by simp))
        go_loopw [10, 12] (fun c i wr => AlM w1 wo.heap.size S t r (.slice A8 S.length c8) c i wr) (fun _ i _ => S.length - (intOf i).toNat)
        case atStart => exact ⟨0, 0, L, Nat.zero_le _, rfl, rfl, Nat.zero_le _, hal0, hrow0, seen_new wo, Or.inl rfl, HL.out⟩
        case round =>
          clear hal0 hrow0 hgm hal hrow HL
          obtain ⟨i, c, M, hi, rfl, rfl, hc, hal, hrow, hseen, hone, hM⟩ := hrel
          have HM := Lib.hid hM
          have HO := Lib.hid hone
          clear hM hone
          by_cases hlt : i < S.length
          · obtain ⟨x, hx⟩ : ∃ x, S[i]? = some x := ⟨S[i], by simp [hlt]⟩
            have HX := Lib.hid hx
            have wx := HWS.out x (List.mem_of_getElem? hx)
            obtain ⟨ad8, hA8, x0⟩ := hrow.cell hx
            subst hA8
            have hlook := hseen.look wx
            clear hx
            by_cases hin : x ∈ S.take i
            · have hd : decide (x ∈ S.take i) = true := by simpa using hin
              rw [hd] at hlook
              clear hd
              go_wp2_with fail
              go_roundw
              case rel => exact ⟨i + 1, c, M, by omega, by go_num, rfl, hc, hal.mono (by omega), hrow, by rw [take_succ_mem HX.out]; exact seen_again hseen hin, by rw [take_succ_mem HX.out]; exact oneW_more HO.out x, HM.out⟩
              case measure => simp [intOf]; omega
            · have hd : decide (x ∈ S.take i) = false := by simpa using hin
              rw [hd] at hlook
              clear hd
              obtain ⟨D, hD1, hD2, hD3⟩ := hseen
              have HD3 := Lib.hid hD3
              clear hD3
              go_wp2_with (first
                | (at_mapUpdate; refine wpList_mapUpdate_own _ rfl _ _ _ 43 rfl 3 4 law3 Try.underlying43 (plainElem Try.prog 4) wo.heap.size (Maps.size D) D rfl hD1 (by have := List.length_take_le i S; unfold maxLen; omega) _ _ _ rfl rfl (keyOf_int_mk Try.underlying3 wx) _ [] (plainElem_bool Try.underlying4 true) ?_; intro w2 hown2 hg2; have hrow2 : Row w1 w2 _ S := hrow.move (fun k hk => hg2.block k (own_lt hrow k hk) (by simpa using row_ne hrow hD1 k hk)); obtain ⟨ad', ea, x2⟩ := hrow2.cell HX.out; cases ea)
                | fail)
              have hbm : w1.heap.size ≤ wo.heap.size := hbwM
              have hal2 : Al w1 w2 ⟨w1.heap.size, 0, none⟩ (40 + i) M (fun b => Of (.slice (some ad8) S.length c8) b ∨ b = wo.heap.size) :=
                hal.grown hg2 (fun b hb => by cases hb; exact Or.inl ⟨Or.inr rfl, hbm⟩) (fun j hj => ⟨Or.inl hj, by
                  rcases hj with hj | rfl
                  · exact own_lt hrow2 j hj
                  · exact hown2.lt⟩)
              have hseen2 : Seen w2 wo.heap.size (S.take i ++ [x]) := seen_put hD1 hD2 HD3.out wx hown2
              refine (write_al hal2 x t r wx wt wr_ (by omega)).mono ?_
              rintro e w3 ⟨rfl, hal3, hkp3⟩
              have hrow3 : Row w1 w3 _ S := hrow2.move (fun k hk => hkp3 k (Or.inl hk))
              have hseen3 := hseen2.move (hkp3 _ (Or.inr rfl))
              have hmem : ∀ h ∈ (LockP.take M ⟨x, t, 1, r⟩).1, h.s ∈ S := fun h hh => by
                rcases mem_take hh with hh | rfl
                · exact HM.out h hh
                · exact List.mem_of_getElem? HX.out
              cases hcf : conflict M ⟨x, t, 1, r⟩
              · have hc0 : c = 0 := by
                  rcases Nat.eq_zero_or_pos c with h | h
                  · exact h
                  · obtain rfl : c = 1 := by omega
                    rw [oneW_conflict HO.out hin] at hcf
                    cases hcf
                subst hc0
                have ht2 : LockP.take M ⟨x, t, 1, r⟩ = (add M ⟨x, t, 1, r⟩, 0) := by unfold LockP.take; rw [hcf]; rfl
                rw [ht2] at hal3 hmem ⊢
                have HMM := Lib.hid hmem
                clear ht2 hcf hmem
                go_wp2_with fail
                go_roundw
                case rel => exact ⟨i + 1, 1, _, by omega, by go_num, rfl, Nat.le_refl _, hal3, hrow3, by rw [take_succ_mem HX.out]; exact hseen3, by rw [take_succ_mem HX.out]; exact Or.inr ⟨rfl, x, by simp, mem_add.2 (Or.inr rfl)⟩, HMM.out⟩
                case measure => simp [intOf]; omega
              · have ht2 : LockP.take M ⟨x, t, 1, r⟩ = (M, 16) := by unfold LockP.take; rw [hcf]; rfl
                rw [ht2] at hal3 hmem ⊢
                have HMM := Lib.hid hmem
                clear ht2 hcf hmem
                go_wp2_with fail
                go_roundw
                case rel => exact ⟨i + 1, c, _, by omega, by go_num, rfl, hc, hal3, hrow3, by rw [take_succ_mem HX.out]; exact hseen3, by rw [take_succ_mem HX.out]; exact oneW_more HO.out x, HMM.out⟩
                case measure => simp [intOf]; omega
          · have hi2 : i = S.length := by omega
            subst hi2
            have halN : Al w1 wr ⟨w1.heap.size, 0, none⟩ (80 + 2 * 0) M (Of (.slice A8 S.length c8)) :=
              (hal.mono (by omega)).grown (row := none) (World.grownBy.refl _ _) (fun b hb => by cases hb) (fun j hj => ⟨Or.inl (Or.inl hj), own_lt hrow j hj⟩)
            have hc1 : ¬ (1 : Int) < (c : Int) := by omega
            obtain ⟨wq, rfl⟩ : ∃ wq, wq = wr := ⟨_, rfl⟩
            clear hal hseen HO
            go_wp2_with fail
            have HMt := Lib.hid HM.out
            go_loopw [13] (fun i wr => AlN w1 S (.slice A8 S.length c8) i wr) (fun i _ => S.length - (intOf i).toNat)
            case atStart => exact ⟨0, M, Nat.zero_le _, rfl, halN, hrow, fun h hh => ⟨HMt.out h hh, by simp⟩⟩
            case round =>
              clear halN hrow HM HMt
              obtain ⟨i, L3, hi3, rfl, hal, hrow, hL3⟩ := hrel
              have HL3 := Lib.hid hL3
              clear hL3
              by_cases hlt : i < S.length
              · obtain ⟨x, hx⟩ : ∃ x, S[i]? = some x := ⟨S[i], by simp [hlt]⟩
                have HX := Lib.hid hx
                have wx := HWS.out x (List.mem_of_getElem? hx)
                obtain ⟨ad8, hA8, x0⟩ := hrow.cell hx
                subst hA8
                clear hx
                go_wp2_with fail
                refine (release_al hal x wx (by omega)).mono ?_
                rintro e w2 ⟨rfl, hal2, hkp2⟩
                have hrow2 : Row w1 w2 _ S := hrow.move hkp2
                obtain ⟨ad', ea, x2⟩ := hrow2.cell HX.out
                cases ea
                have H0 := Lib.hid (held_without_same L3 x)
                go_wp2_with fail
                refine (held_al hal2 x wx).mono ?_
                rw [H0.out]
                rintro e w3 ⟨rfl, rfl⟩
                go_wp2_with fail
                refine (release_al hal2 x wx (by omega)).mono ?_
                rw [H0.out, without_none H0.out]
                rintro e w4 ⟨rfl, hal4, hkp4⟩
                have hrow4 : Row w1 w4 _ S := hrow2.move hkp4
                go_wp2_with fail
                go_roundw
                case rel =>
                  refine ⟨i + 1, _, by omega, by go_num, by rw [show 80 + 2 * (i + 1) = 80 + 2 * i + 1 + 1 by omega]; exact hal4, hrow4, fun h hh => ?_⟩
                  obtain ⟨hh1, hh2⟩ := mem_without.1 hh
                  obtain ⟨g1, g2⟩ := HL3.out h hh1
                  refine ⟨g1, ?_⟩
                  rw [take_succ_mem HX.out]
                  simp [g2, hh2]
                case measure => simp [intOf]; omega
              · have hi2 : i = S.length := by omega
                subst hi2
                have hnil : L3 = [] := by
                  rcases L3 with _ | ⟨h, L3⟩
                  · rfl
                  · obtain ⟨g1, g2⟩ := HL3.out h (by simp)
                    rw [List.take_length] at g2
                    exact absurd g1 g2
                subst hnil
                have T1 : Hid (LockP.take [] ⟨1, t, 2, 0⟩ = ([⟨1, t, 2, 0⟩], 0)) := rfl
                have T2 : Hid (LockP.take [⟨1, t, 2, 0⟩] ⟨2, t, 0, 0⟩ = ([⟨1, t, 2, 0⟩], 16)) := Lib.hid (by simp [LockP.take, conflict, bars])
                clear hrow HL3
                go_wp2_with fail
                refine (alone_al hal 1 t wf1 wt (by omega)).mono ?_
                rw [T1.out]
                rintro e w2 ⟨rfl, hal2, _⟩
                go_wp2_with fail
                refine (read_al hal2 2 t wf2 wt (by omega)).mono ?_
                rw [T2.out]
                rintro e w3 ⟨rfl, hal3, _⟩
                go_wp2_with fail
                refine (read_nil 1 1 _).mono ?_
                rintro e w4 ⟨rfl, hb4⟩
                go_wp2_with fail
                refine (write_nil 1 1 1 _).mono ?_
                rintro e w5 ⟨rfl, hb5⟩
                go_wp2_with fail
                refine (alone_nil 1 1 _).mono ?_
                rintro e w6 ⟨rfl, hb6⟩
                go_wp2_with fail
                refine (release_nil 1 _).mono ?_
                rintro e w7 ⟨rfl, hb7⟩
                go_wp2_with fail
                refine (held_nil 1 _).mono ?_
                rintro e w8 ⟨rfl, rfl⟩
                go_wp2_with fail
                go_ret
                have hb37 : Below w3.heap.size w3 w7 := ((hb4.trans (hb5.mono hb4.size)).trans (hb6.mono (Nat.le_trans hb4.size hb5.size))).trans (hb7.mono (Nat.le_trans (Nat.le_trans hb4.size hb5.size) hb6.size))
                exact ⟨rfl, hbw1.trans ((hal3.below hb37).bel.mono hbw1.size)⟩
end Go.Proofs.Yteccbihjkolpcaa

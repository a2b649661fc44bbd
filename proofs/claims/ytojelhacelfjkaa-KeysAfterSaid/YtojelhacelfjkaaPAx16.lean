-- Written by a program of this seat out of the translation; Lean checks it.
import Derived.Test.YtojelhacelfjkaaPAx0
import Derived.Test.YtojelhacelfjkaaPAx11s1
import Derived.Test.YtojelhacelfjkaaPAx15s2
import Derived.Test.YtojelhacelfjkaaPAx6
namespace Go.Proofs.Ytojelhacelfjkaa.PA
open Go.RowKit Go.Proofs.YtojelhacelfjkaaW.PrintWords Go.Proofs.YtojelhacelfjkaaW.PrintLast Go.Proofs.YtojelhacelfjkaaW.PrintMore
attribute [local go_sem] MyBase.max0 max2_int min2_int max_two min_two max_three min_three max_four min_four   -- for this text's walks alone
set_option linter.unusedVariables false
set_option linter.unusedSimpArgs false

/-! ### concordancelaw01_KeysAfter: function 9 -/
mutual
def concordancelaw01_KeysAfter.j0 : Nat → ByteArray → ByteArray → Bool → Option (Bool)
  | 0, _, _, _ => none
  | k + 1, x0, x1, x17 => if x17 = true then (some true) else ((keys_After.f k x0).bind fun t356 => (if (x1.size : Int) ≥ (x0.size : Int) then (if 0 ≤ (mn (x0.size : Int) (x1.size : Int)) then (if (mn (x0.size : Int) (x1.size : Int)) ≤ (x1.size : Int) then (concordancelaw01_KeysAfter.j1 k x0 x1 t356 ((x1.extract 0 ((mn (x0.size : Int) (x1.size : Int)) : Int).toNat).toList == x0.toList)) else (none)) else (none)) else (concordancelaw01_KeysAfter.j1 k x0 x1 t356 false)))
def concordancelaw01_KeysAfter.j1 : Nat → ByteArray → ByteArray → ByteArray → Bool → Option (Bool)
  | 0, _, _, _, _ => none
  | k + 1, x0, x1, x5, x6 => if x5.toList = ([] : List UInt8) then (concordancelaw01_KeysAfter.l0 k x0 0) else (if x6 = true then ((concordanceref01_Bytes.f k x1 x5).bind fun t357 => (if t357 < 0 then ((concordanceref01_Bytes.f k x0 x5).bind fun t358 => (some (decide (t358 < 0)))) else (some false))) else ((concordanceref01_Bytes.f k x1 x0).bind fun t359 => (if t359 < 0 then (some true) else ((concordanceref01_Bytes.f k x1 x5).bind fun t360 => (some (decide (t360 ≥ 0)))))))
def concordancelaw01_KeysAfter.l0 : Nat → ByteArray → Int → Option (Bool)
  | 0, _, _ => none
  | k + 1, x0, x7 => if x7 < (x0.size : Int) then (if 0 ≤ x7 then (if (bt x0 x7) = 255 then (concordancelaw01_KeysAfter.l0 k x0 (wrap64 (x7 + 1))) else (some false)) else (none)) else (some true)
end
def concordancelaw01_KeysAfter.f (k : Nat) (a0 : ByteArray) (a1 : ByteArray) : Option (Bool) := (concordancelaw01_speaks.f k).bind fun t355 => (if t355 = true then (if (a0.size : Int) > 100 then (concordancelaw01_KeysAfter.j0 k a0 a1 true) else (concordancelaw01_KeysAfter.j0 k a0 a1 (decide ((a1.size : Int) > 200)))) else (some false))
theorem concordancelaw01_KeysAfter.mono_l : ∀ k, (∀ y0 y1 y2, LeO (concordancelaw01_KeysAfter.j0 k y0 y1 y2) (concordancelaw01_KeysAfter.j0 (k + 1) y0 y1 y2)) ∧ (∀ y0 y1 y2 y3, LeO (concordancelaw01_KeysAfter.j1 k y0 y1 y2 y3) (concordancelaw01_KeysAfter.j1 (k + 1) y0 y1 y2 y3)) ∧ (∀ y0 y1, LeO (concordancelaw01_KeysAfter.l0 k y0 y1) (concordancelaw01_KeysAfter.l0 (k + 1) y0 y1))
  | 0 => ⟨fun _ _ _ r h => by simp [concordancelaw01_KeysAfter.j0] at h, fun _ _ _ _ r h => by simp [concordancelaw01_KeysAfter.j1] at h, fun _ _ r h => by simp [concordancelaw01_KeysAfter.l0] at h⟩
  | k + 1 => by
    obtain ⟨ih0, ih1, ih2⟩ := concordancelaw01_KeysAfter.mono_l k
    refine ⟨?_, ?_, ?_⟩
    · intro y0 y1 y2
      unfold concordancelaw01_KeysAfter.j0
      repeat' first
      | (with_reducible exact ih0 _ _ _)
      | (with_reducible exact ih1 _ _ _ _)
      | (with_reducible exact ih2 _ _)
      | (with_reducible exact concordancelaw01_speaks.mono _)
      | (with_reducible exact concordanceref01_Bytes.mono _ _ _)
      | (with_reducible exact keys_After.mono _ _)
      | (with_reducible exact LeO.refl _)
      | (with_reducible exact LeO.none _)
      | (with_reducible refine LeO.ite ?_ ?_)
      | (with_reducible refine LeO.bind ?_ (fun _ => ?_))
      | exact ih0 _ _ _
      | exact ih1 _ _ _ _
      | exact ih2 _ _
      | exact concordancelaw01_speaks.mono _
      | exact concordanceref01_Bytes.mono _ _ _
      | exact keys_After.mono _ _
      | exact LeO.none _
      | refine LeO.ite ?_ ?_
      | refine LeO.bind ?_ (fun _ => ?_)
    · intro y0 y1 y2 y3
      unfold concordancelaw01_KeysAfter.j1
      repeat' first
      | (with_reducible exact ih0 _ _ _)
      | (with_reducible exact ih1 _ _ _ _)
      | (with_reducible exact ih2 _ _)
      | (with_reducible exact concordancelaw01_speaks.mono _)
      | (with_reducible exact concordanceref01_Bytes.mono _ _ _)
      | (with_reducible exact keys_After.mono _ _)
      | (with_reducible exact LeO.refl _)
      | (with_reducible exact LeO.none _)
      | (with_reducible refine LeO.ite ?_ ?_)
      | (with_reducible refine LeO.bind ?_ (fun _ => ?_))
      | exact ih0 _ _ _
      | exact ih1 _ _ _ _
      | exact ih2 _ _
      | exact concordancelaw01_speaks.mono _
      | exact concordanceref01_Bytes.mono _ _ _
      | exact keys_After.mono _ _
      | exact LeO.none _
      | refine LeO.ite ?_ ?_
      | refine LeO.bind ?_ (fun _ => ?_)
    · intro y0 y1
      unfold concordancelaw01_KeysAfter.l0
      repeat' first
      | (with_reducible exact ih0 _ _ _)
      | (with_reducible exact ih1 _ _ _ _)
      | (with_reducible exact ih2 _ _)
      | (with_reducible exact concordancelaw01_speaks.mono _)
      | (with_reducible exact concordanceref01_Bytes.mono _ _ _)
      | (with_reducible exact keys_After.mono _ _)
      | (with_reducible exact LeO.refl _)
      | (with_reducible exact LeO.none _)
      | (with_reducible refine LeO.ite ?_ ?_)
      | (with_reducible refine LeO.bind ?_ (fun _ => ?_))
      | exact ih0 _ _ _
      | exact ih1 _ _ _ _
      | exact ih2 _ _
      | exact concordancelaw01_speaks.mono _
      | exact concordanceref01_Bytes.mono _ _ _
      | exact keys_After.mono _ _
      | exact LeO.none _
      | refine LeO.ite ?_ ?_
      | refine LeO.bind ?_ (fun _ => ?_)
theorem concordancelaw01_KeysAfter.mono : ∀ a0 a1 k, LeO (concordancelaw01_KeysAfter.f k a0 a1) (concordancelaw01_KeysAfter.f (k + 1) a0 a1) := by
  intro a0 a1 k
  obtain ⟨ih0, ih1, ih2⟩ := concordancelaw01_KeysAfter.mono_l k
  unfold concordancelaw01_KeysAfter.f
  repeat' first
      | (with_reducible exact ih0 _ _ _)
      | (with_reducible exact ih1 _ _ _ _)
      | (with_reducible exact ih2 _ _)
      | (with_reducible exact concordancelaw01_speaks.mono _)
      | (with_reducible exact concordanceref01_Bytes.mono _ _ _)
      | (with_reducible exact keys_After.mono _ _)
      | (with_reducible exact LeO.refl _)
      | (with_reducible exact LeO.none _)
      | (with_reducible refine LeO.ite ?_ ?_)
      | (with_reducible refine LeO.bind ?_ (fun _ => ?_))
      | exact ih0 _ _ _
      | exact ih1 _ _ _ _
      | exact ih2 _ _
      | exact concordancelaw01_speaks.mono _
      | exact concordanceref01_Bytes.mono _ _ _
      | exact keys_After.mono _ _
      | exact LeO.none _
      | refine LeO.ite ?_ ?_
      | refine LeO.bind ?_ (fun _ => ?_)
set_option maxHeartbeats 8000000 in
set_option maxRecDepth 100000 in
theorem concordancelaw01_KeysAfter.calls (k : Nat) (a0 : ByteArray) (a1 : ByteArray) (r : Bool) (w : World) (h : concordancelaw01_KeysAfter.f k a0 a1 = some r) :
    Calls Try.prog 9 #[.string a0, .string a1] w fun e w' => e = .returned (.bool r) ∧ Below w.heap.size w w' := by
  have HB := Aside0.mk (Below.refl w.heap.size w)
  have H : ((concordancelaw01_speaks.f k).bind fun t355 => (if t355 = true then (if (a0.size : Int) > 100 then (concordancelaw01_KeysAfter.j0 k a0 a1 true) else (concordancelaw01_KeysAfter.j0 k a0 a1 (decide ((a1.size : Int) > 200)))) else (some false))) = some r := h
  clear h
  replace H := Option.bind_eq_some_iff.mp H
  obtain ⟨t355, A30, H⟩ := H
  replace H : (if t355 = true then (if (a0.size : Int) > 100 then (concordancelaw01_KeysAfter.j0 k a0 a1 true) else (concordancelaw01_KeysAfter.j0 k a0 a1 (decide ((a1.size : Int) > 200)))) else (some false)) = some r := H
  have A3 := Aside0.mk A30
  clear A30
  by_cases c4 : t355 = true
  · subst c4
    have H1 : (if (a0.size : Int) > 100 then (concordancelaw01_KeysAfter.j0 k a0 a1 true) else (concordancelaw01_KeysAfter.j0 k a0 a1 (decide ((a1.size : Int) > 200)))) = some r := by rw [if_pos rfl] at H; exact H
    clear H
    have H := H1
    clear H1
    have HC5 := Aside0.mk H
    clear H
    go_enter Try.func9, Try.ntmps9
    go_upto_region 3 with (first | ((with_reducible refine gate_callee (f := 10) rfl ?_); refine goesL_ (some 8) rfl rfl Try.func10 (by kernel_rfl) rfl #[] rfl (by (try simp only [List.map_toArray, List.map_cons, List.map_nil]); first | done | rfl | (simp only [List.length_drop, List.length_take]; rfl)) ?_; (with_reducible refine (concordancelaw01_speaks.calls k  true _ A3.out).mono ?_); rintro e w6 ⟨rfl, hb⟩; refine ⟨_, rfl, ?_⟩; have n0_ := Aside0.mk (below_step (by repeat (first | (with_reducible first | exact HB.out | apply below_alloc | apply pw_below_drewN | apply below_drew1) | exact HB.out)) hb); clear HB; have HB := n0_; clear n0_; (try clear hb); (try clear hb2); (try clear hk); (try clear hi)))
    (try simp only [Act.put, List.setIfInBounds_toArray, List.set_cons_zero, List.set_cons_succ])
    go_cut [17] (fun v17 wc => ∃ (kq : Nat) (x17_4 : Bool), v17 = .bool x17_4 ∧ Aside0 (concordancelaw01_KeysAfter.j0 kq a0 a1 x17_4 = some r) ∧ Aside0 (kq ≤ k) ∧ Aside0 (Below w.heap.size w wc))
    case first =>
      have H := HC5.out
      clear HC5
      by_cases c7 : (a0.size : Int) > 100
      · rw [if_pos c7] at H
        have c7b0 : decide (100 < (a0.size : Int)) = true := decide_eq_true c7
        have c7b1 : decide (100 < a0.size) = true := decide_eq_true (by omega)
        clear c7
        (first | rw [c7b0] | (simp only [i64_w, i32_w]; rw [c7b0]) | skip)
        have H' := Aside0.mk H
        clear H
        go_wp2
        go_meet
        case rel => exact ⟨_, (true), (by first | rfl | (simp; done) | (simp [MyBase.ne_nil]; done) | (simp [*]; done)), H', ⟨by first | omega | exact Nat.le_refl _⟩, ⟨by repeat (first | (with_reducible first | exact HB.out | apply below_alloc | apply pw_below_drewN | apply below_drew1) | exact HB.out)⟩⟩
      · rw [if_neg c7] at H
        have c7b0 : decide (100 < (a0.size : Int)) = false := decide_eq_false c7
        have c7b1 : decide (100 < a0.size) = false := decide_eq_false (by omega)
        clear c7
        (first | rw [c7b0] | (simp only [i64_w, i32_w]; rw [c7b0]) | skip)
        have H' := Aside0.mk H
        clear H
        go_wp2
        go_meet
        case rel => exact ⟨_, (decide ((a1.size : Int) > 200)), (by first | rfl | (simp; done) | (simp [MyBase.ne_nil]; done) | (simp [*]; done)), H', ⟨by first | omega | exact Nat.le_refl _⟩, ⟨by repeat (first | (with_reducible first | exact HB.out | apply below_alloc | apply pw_below_drewN | apply below_drew1) | exact HB.out)⟩⟩
    case rest =>
      clear HC5
      try clear c1
      try clear p2
      try clear c4
      try clear c7
      try clear c7b0
      try clear c7b1
      obtain ⟨kq, x17_4, rfl, HA, HJ4, HB⟩ := hcut
      cases kq with
      | zero => exact absurd HA.out (by simp [concordancelaw01_KeysAfter.j0])
      | succ kj4 =>
        have H := HA.out
        clear HA
        simp only [concordancelaw01_KeysAfter.j0] at H
        by_cases c8 : x17_4 = true
        · subst c8
          have H1 : (some true) = some r := by rw [if_pos rfl] at H; exact H
          clear H
          have H := H1
          clear H1
          obtain rfl := Option.some.inj H
          go_wp2
          go_ret
          exact ⟨by first | rfl | (simp [errW_none, errW_some] <;> rfl) | (simp [*, errW_none, errW_some] <;> rfl), by repeat (first | (with_reducible first | exact HB.out | apply below_alloc | apply pw_below_drewN | apply below_drew1) | exact HB.out)⟩
        · replace c8 := Bool.eq_false_iff.mpr c8
          subst c8
          have H1 : ((keys_After.f kj4 a0).bind fun t356 => (if (a1.size : Int) ≥ (a0.size : Int) then (if 0 ≤ (mn (a0.size : Int) (a1.size : Int)) then (if (mn (a0.size : Int) (a1.size : Int)) ≤ (a1.size : Int) then (concordancelaw01_KeysAfter.j1 kj4 a0 a1 t356 ((a1.extract 0 ((mn (a0.size : Int) (a1.size : Int)) : Int).toNat).toList == a0.toList)) else (none)) else (none)) else (concordancelaw01_KeysAfter.j1 kj4 a0 a1 t356 false))) = some r := by rw [if_neg (show ¬ (false = true) by decide)] at H; exact H
          clear H
          have H := H1
          clear H1
          replace H := Option.bind_eq_some_iff.mp H
          obtain ⟨t356, A90, H⟩ := H
          replace H : (if (a1.size : Int) ≥ (a0.size : Int) then (if 0 ≤ (mn (a0.size : Int) (a1.size : Int)) then (if (mn (a0.size : Int) (a1.size : Int)) ≤ (a1.size : Int) then (concordancelaw01_KeysAfter.j1 kj4 a0 a1 t356 ((a1.extract 0 ((mn (a0.size : Int) (a1.size : Int)) : Int).toNat).toList == a0.toList)) else (none)) else (none)) else (concordancelaw01_KeysAfter.j1 kj4 a0 a1 t356 false)) = some r := H
          have A9 := Aside0.mk A90
          clear A90
          have HC10 := Aside0.mk H
          clear H
          go_upto_region 6 with (first | ((with_reducible refine gate_callee (f := 22) rfl ?_); refine goesL_ (some 19) rfl rfl Try.func22 (by kernel_rfl) rfl #[.string a0] rfl (by (try simp only [List.map_toArray, List.map_cons, List.map_nil]); first | done | rfl | (simp only [List.length_drop, List.length_take]; rfl)) ?_; (with_reducible refine (keys_After.calls kj4 a0 t356 _ A9.out).mono ?_); rintro e w11 ⟨rfl, hb⟩; refine ⟨_, rfl, ?_⟩; have n0_ := Aside0.mk (below_step (by repeat (first | (with_reducible first | exact HB.out | apply below_alloc | apply pw_below_drewN | apply below_drew1) | exact HB.out)) hb); clear HB; have HB := n0_; clear n0_; (try clear hb); (try clear hb2); (try clear hk); (try clear hi)))
          (try simp only [Act.put, List.setIfInBounds_toArray, List.set_cons_zero, List.set_cons_succ])
          go_cut [6] (fun v6 wc => ∃ (kq : Nat) (x6_9 : Bool), v6 = .bool x6_9 ∧ Aside0 (concordancelaw01_KeysAfter.j1 kq a0 a1 t356 x6_9 = some r) ∧ Aside0 (kq ≤ kj4) ∧ Aside0 (Below w.heap.size w wc))
          case first =>
            have H := HC10.out
            clear HC10
            by_cases c12 : (a1.size : Int) ≥ (a0.size : Int)
            · rw [if_pos c12] at H
              have c12b0 : decide ((a0.size : Int) ≤ (a1.size : Int)) = true := decide_eq_true c12
              have c12b1 : decide (a0.size ≤ a1.size) = true := decide_eq_true (Int.ofNat_le.mp c12)
              clear c12
              (first | rw [c12b0] | (simp only [i64_w, i32_w]; rw [c12b0]) | skip)
              have hji13 : (mn (a0.size : Int) (a1.size : Int)) = (a0.size : Int) := by unfold mn; exact if_neg (by have := of_decide_eq_true c12b0; omega)
              replace H : (if 0 ≤ ((a0.size : Int)) then (if ((a0.size : Int)) ≤ (a1.size : Int) then (concordancelaw01_KeysAfter.j1 kj4 a0 a1 t356 ((a1.extract 0 (((a0.size : Int)) : Int).toNat).toList == a0.toList)) else (none)) else (none)) = some r := by first | (rw [hji13] at H; exact H) | (simp only [hji13] at H ⊢; exact H)
              have hji13_ : (if (a1.size : Int) < (a0.size : Int) then (a1.size : Int) else (a0.size : Int)) = (a0.size : Int) := hji13
              by_cases c14 : 0 ≤ ((a0.size : Int))
              · rw [if_pos c14] at H
                have c14b0 := eq_true c14
                have c14b1 : decide (0 ≤ ((a0.size : Int))) = true := decide_eq_true c14
                clear c14
                by_cases c15 : ((a0.size : Int)) ≤ (a1.size : Int)
                · rw [if_pos c15] at H
                  have c15b0 := eq_true c15
                  have c15b1 : decide (((a0.size : Int)) ≤ (a1.size : Int)) = true := decide_eq_true c15
                  clear c15
                  have H' := Aside0.mk H
                  clear H
                  go_wp2
                  go_meet
                  case rel => exact ⟨_, (((a1.extract 0 (((a0.size : Int)) : Int).toNat).toList == a0.toList)), (by first | rfl | (simp; done) | (simp only [← hji13] <;> (first | rfl | simp)) | (simp [*]; done)), H', ⟨by have := HJ4.out; first | omega | exact Nat.le_refl _⟩, ⟨by repeat (first | (with_reducible first | exact HB.out | apply below_alloc | apply pw_below_drewN | apply below_drew1) | exact HB.out)⟩⟩
                · rw [if_neg c15] at H
                  exact absurd H (by simp)
              · rw [if_neg c14] at H
                exact absurd H (by simp)
            · rw [if_neg c12] at H
              have c12b0 : decide ((a0.size : Int) ≤ (a1.size : Int)) = false := decide_eq_false c12
              have c12b1 : decide (a0.size ≤ a1.size) = false := decide_eq_false (fun h => c12 (Int.ofNat_le.mpr h))
              clear c12
              (first | rw [c12b0] | (simp only [i64_w, i32_w]; rw [c12b0]) | skip)
              have H' := Aside0.mk H
              clear H
              go_wp2
              go_meet
              case rel => exact ⟨_, (false), (by first | rfl | (simp; done) | (simp [MyBase.ne_nil]; done) | (simp [*]; done)), H', ⟨by have := HJ4.out; first | omega | exact Nat.le_refl _⟩, ⟨by repeat (first | (with_reducible first | exact HB.out | apply below_alloc | apply pw_below_drewN | apply below_drew1) | exact HB.out)⟩⟩
          case rest =>
            clear HC10
            try clear c1
            try clear c2
            try clear p2
            try clear c4
            try clear c7
            try clear c7b0
            try clear c7b1
            try clear c8
            try clear c9
            try clear c10
            try clear c12
            try clear c12b0
            try clear c12b1
            try clear c14
            try clear c14b0
            try clear c14b1
            try clear c15
            try clear c15b0
            try clear c15b1
            try clear p2
            obtain ⟨kq, x6_9, rfl, HA, HJ9, HB⟩ := hcut
            cases kq with
            | zero => exact absurd HA.out (by simp [concordancelaw01_KeysAfter.j1])
            | succ kj9 =>
              have H := HA.out
              clear HA
              simp only [concordancelaw01_KeysAfter.j1] at H
              by_cases c16 : t356.toList = ([] : List UInt8)
              · rw [if_pos c16] at H
                have c16b0 : (t356.toList == ([] : List UInt8)) = true := beq_iff_eq.mpr c16
                have c16b1 : (t356.toList != ([] : List UInt8)) = false := bne_eq_false_iff_eq.mpr c16
                clear c16
                have H' := Aside0.mk H
                clear H
                go_wp2
                go_loopg [7] kj9 (fun kq v7 w' => ∃ (x7_3 : Int), v7 = .int .i64 x7_3 ∧ Aside0 (concordancelaw01_KeysAfter.l0 kq a0 x7_3 = some r) ∧ Aside0 (kq ≤ kj9) ∧ Aside0 (Below w.heap.size w w'))
                case atStart => exact ⟨(0), (by first | rfl | (simp; done) | (simp [MyBase.ne_nil]; done) | (simp [*]; done)), H', ⟨Nat.le_refl _⟩, ⟨by repeat (first | (with_reducible first | exact HB.out | apply below_alloc | apply pw_below_drewN | apply below_drew1) | exact HB.out)⟩⟩
                case round =>
                  clear H'
                  try clear c1
                  try clear c2
                  try clear p2
                  try clear c4
                  try clear c7
                  try clear c7b0
                  try clear c7b1
                  try clear c8
                  try clear c9
                  try clear c10
                  try clear c12
                  try clear c12b0
                  try clear c12b1
                  try clear c14
                  try clear c14b0
                  try clear c14b1
                  try clear c15
                  try clear c15b0
                  try clear c15b1
                  try clear c16
                  try clear c16b0
                  try clear c16b1
                  try clear p2
                  obtain ⟨x7_3, rfl, HA, HK3, HB⟩ := hrel
                  cases gk with
                  | zero => exact absurd HA.out (by simp [concordancelaw01_KeysAfter.l0])
                  | succ k3 =>
                    have H := HA.out
                    clear HA
                    simp only [concordancelaw01_KeysAfter.l0] at H
                    by_cases c17 : x7_3 < (a0.size : Int)
                    · rw [if_pos c17] at H
                      have c17b0 : decide (x7_3 < (a0.size : Int)) = true := decide_eq_true c17
                      clear c17
                      by_cases c18 : 0 ≤ x7_3
                      · rw [if_pos c18] at H
                        have c18b0 : decide (0 ≤ x7_3) = true := decide_eq_true c18
                        clear c18
                        by_cases c20 : (bt a0 x7_3) = 255
                        · rw [if_pos c20] at H
                          have c20b0 : ((bt a0 x7_3) == 255) = true := beq_iff_eq.mpr c20
                          have c20b1 : ((bt a0 x7_3) != 255) = false := bne_eq_false_iff_eq.mpr c20
                          clear c20
                          have H' := Aside0.mk H
                          clear H
                          have p19 : 0 ≤ (x7_3 : Int) := of_decide_eq_true (by first | (with_reducible assumption) | assumption)
                          have q19 : x7_3 < (a0.size : Int) := of_decide_eq_true (by first | (with_reducible assumption) | assumption)
                          have hx19 := bt_at a0 x7_3
                          replace p19 := eq_true p19
                          replace q19 := eq_true q19
                          go_wp2
                          go_roundg k3
                          case measure => have := HJ4.out; have := HJ9.out; have := HK3.out; omega
                          case rel => exact ⟨(wrap64 (x7_3 + 1)), (by first | rfl | (simp; done) | (simp [MyBase.ne_nil]; done) | (simp [*]; done)), H', ⟨by have := HJ4.out; have := HJ9.out; have := HK3.out; omega⟩, ⟨by repeat (first | (with_reducible first | exact HB.out | apply below_alloc | apply pw_below_drewN | apply below_drew1) | exact HB.out)⟩⟩
                        · rw [if_neg c20] at H
                          have c20b0 : ((bt a0 x7_3) == 255) = false := beq_eq_false_iff_ne.mpr c20
                          have c20b1 : ((bt a0 x7_3) != 255) = true := bne_iff_ne.mpr c20
                          obtain rfl := Option.some.inj H
                          have p19 : 0 ≤ (x7_3 : Int) := of_decide_eq_true (by first | (with_reducible assumption) | assumption)
                          have q19 : x7_3 < (a0.size : Int) := of_decide_eq_true (by first | (with_reducible assumption) | assumption)
                          have hx19 := bt_at a0 x7_3
                          replace p19 := eq_true p19
                          replace q19 := eq_true q19
                          go_wp2
                          go_ret
                          exact ⟨by first | rfl | (simp [errW_none, errW_some] <;> rfl) | (simp [*, errW_none, errW_some] <;> rfl), by repeat (first | (with_reducible first | exact HB.out | apply below_alloc | apply pw_below_drewN | apply below_drew1) | exact HB.out)⟩
                      · rw [if_neg c18] at H
                        exact absurd H (by simp)
                    · rw [if_neg c17] at H
                      have c17b0 : decide (x7_3 < (a0.size : Int)) = false := decide_eq_false c17
                      clear c17
                      obtain rfl := Option.some.inj H
                      go_wp2
                      go_ret
                      exact ⟨by first | rfl | (simp [errW_none, errW_some] <;> rfl) | (simp [*, errW_none, errW_some] <;> rfl), by repeat (first | (with_reducible first | exact HB.out | apply below_alloc | apply pw_below_drewN | apply below_drew1) | exact HB.out)⟩
              · rw [if_neg c16] at H
                have c16b0 : (t356.toList == ([] : List UInt8)) = false := beq_eq_false_iff_ne.mpr c16
                have c16b1 : (t356.toList != ([] : List UInt8)) = true := bne_iff_ne.mpr c16
                by_cases c21 : x6_9 = true
                · subst c21
                  have H1 : ((concordanceref01_Bytes.f kj9 a1 t356).bind fun t357 => (if t357 < 0 then ((concordanceref01_Bytes.f kj9 a0 t356).bind fun t358 => (some (decide (t358 < 0)))) else (some false))) = some r := by rw [if_pos rfl] at H; exact H
                  clear H
                  have H := H1
                  clear H1
                  replace H := Option.bind_eq_some_iff.mp H
                  obtain ⟨t357, A220, H⟩ := H
                  replace H : (if t357 < 0 then ((concordanceref01_Bytes.f kj9 a0 t356).bind fun t358 => (some (decide (t358 < 0)))) else (some false)) = some r := H
                  have A22 := Aside0.mk A220
                  clear A220
                  by_cases c23 : t357 < 0
                  · rw [if_pos c23] at H
                    have c23b0 : decide (t357 < 0) = true := decide_eq_true c23
                    clear c23
                    replace H := Option.bind_eq_some_iff.mp H
                    obtain ⟨t358, A240, H⟩ := H
                    replace H : (some (decide (t358 < 0))) = some r := H
                    have A24 := Aside0.mk A240
                    clear A240
                    obtain rfl := Option.some.inj H
                    go_wp2_with (first | ((with_reducible refine gate_callee (f := 18) rfl ?_); refine goesL_ (some 51) rfl rfl Try.func18 (by kernel_rfl) rfl #[.string a1, .string t356] rfl (by (try simp only [List.map_toArray, List.map_cons, List.map_nil]); first | done | rfl | (simp only [List.length_drop, List.length_take]; rfl)) ?_; (with_reducible refine (concordanceref01_Bytes.calls kj9 a1 t356 t357 _ A22.out).mono ?_); rintro e w' ⟨rfl, ⟨nd, rfl⟩⟩; refine ⟨_, rfl, ?_⟩) | (go_at_call 18; (with_reducible refine (concordanceref01_Bytes.calls kj9 a0 t356 t358 _ A24.out).mono ?_); rintro e w' ⟨rfl, ⟨nd, rfl⟩⟩))
                    go_ret
                    exact ⟨by first | rfl | (simp [errW_none, errW_some] <;> rfl) | (simp [*, errW_none, errW_some] <;> rfl), by repeat (first | (with_reducible first | exact HB.out | apply below_alloc | apply pw_below_drewN | apply below_drew1) | exact HB.out)⟩
                  · rw [if_neg c23] at H
                    have c23b0 : decide (t357 < 0) = false := decide_eq_false c23
                    clear c23
                    obtain rfl := Option.some.inj H
                    go_wp2_with (first | ((with_reducible refine gate_callee (f := 18) rfl ?_); refine goesL_ (some 51) rfl rfl Try.func18 (by kernel_rfl) rfl #[.string a1, .string t356] rfl (by (try simp only [List.map_toArray, List.map_cons, List.map_nil]); first | done | rfl | (simp only [List.length_drop, List.length_take]; rfl)) ?_; (with_reducible refine (concordanceref01_Bytes.calls kj9 a1 t356 t357 _ A22.out).mono ?_); rintro e w' ⟨rfl, ⟨nd, rfl⟩⟩; refine ⟨_, rfl, ?_⟩))
                    go_ret
                    exact ⟨by first | rfl | (simp [errW_none, errW_some] <;> rfl) | (simp [*, errW_none, errW_some] <;> rfl), by repeat (first | (with_reducible first | exact HB.out | apply below_alloc | apply pw_below_drewN | apply below_drew1) | exact HB.out)⟩
                · replace c21 := Bool.eq_false_iff.mpr c21
                  subst c21
                  have H1 : ((concordanceref01_Bytes.f kj9 a1 a0).bind fun t359 => (if t359 < 0 then (some true) else ((concordanceref01_Bytes.f kj9 a1 t356).bind fun t360 => (some (decide (t360 ≥ 0)))))) = some r := by rw [if_neg (show ¬ (false = true) by decide)] at H; exact H
                  clear H
                  have H := H1
                  clear H1
                  replace H := Option.bind_eq_some_iff.mp H
                  obtain ⟨t359, A250, H⟩ := H
                  replace H : (if t359 < 0 then (some true) else ((concordanceref01_Bytes.f kj9 a1 t356).bind fun t360 => (some (decide (t360 ≥ 0))))) = some r := H
                  have A25 := Aside0.mk A250
                  clear A250
                  by_cases c26 : t359 < 0
                  · rw [if_pos c26] at H
                    have c26b0 : decide (t359 < 0) = true := decide_eq_true c26
                    clear c26
                    obtain rfl := Option.some.inj H
                    go_wp2_with (first | ((with_reducible refine gate_callee (f := 18) rfl ?_); refine goesL_ (some 61) rfl rfl Try.func18 (by kernel_rfl) rfl #[.string a1, .string a0] rfl (by (try simp only [List.map_toArray, List.map_cons, List.map_nil]); first | done | rfl | (simp only [List.length_drop, List.length_take]; rfl)) ?_; (with_reducible refine (concordanceref01_Bytes.calls kj9 a1 a0 t359 _ A25.out).mono ?_); rintro e w' ⟨rfl, ⟨nd, rfl⟩⟩; refine ⟨_, rfl, ?_⟩))
                    go_ret
                    exact ⟨by first | rfl | (simp [errW_none, errW_some] <;> rfl) | (simp [*, errW_none, errW_some] <;> rfl), by repeat (first | (with_reducible first | exact HB.out | apply below_alloc | apply pw_below_drewN | apply below_drew1) | exact HB.out)⟩
                  · rw [if_neg c26] at H
                    have c26b0 : decide (t359 < 0) = false := decide_eq_false c26
                    clear c26
                    replace H := Option.bind_eq_some_iff.mp H
                    obtain ⟨t360, A270, H⟩ := H
                    replace H : (some (decide (t360 ≥ 0))) = some r := H
                    have A27 := Aside0.mk A270
                    clear A270
                    obtain rfl := Option.some.inj H
                    go_wp2_with (first | ((with_reducible refine gate_callee (f := 18) rfl ?_); refine goesL_ (some 61) rfl rfl Try.func18 (by kernel_rfl) rfl #[.string a1, .string a0] rfl (by (try simp only [List.map_toArray, List.map_cons, List.map_nil]); first | done | rfl | (simp only [List.length_drop, List.length_take]; rfl)) ?_; (with_reducible refine (concordanceref01_Bytes.calls kj9 a1 a0 t359 _ A25.out).mono ?_); rintro e w' ⟨rfl, ⟨nd, rfl⟩⟩; refine ⟨_, rfl, ?_⟩) | (go_at_call 18; (with_reducible refine (concordanceref01_Bytes.calls kj9 a1 t356 t360 _ A27.out).mono ?_); rintro e w' ⟨rfl, ⟨nd, rfl⟩⟩))
                    go_ret
                    exact ⟨by first | rfl | (simp [errW_none, errW_some] <;> rfl) | (simp [*, errW_none, errW_some] <;> rfl), by repeat (first | (with_reducible first | exact HB.out | apply below_alloc | apply pw_below_drewN | apply below_drew1) | exact HB.out)⟩
  · replace c4 := Bool.eq_false_iff.mpr c4
    subst c4
    have H1 : (some false) = some r := by rw [if_neg (show ¬ (false = true) by decide)] at H; exact H
    clear H
    have H := H1
    clear H1
    obtain rfl := Option.some.inj H
    go_enter Try.func9, Try.ntmps9
    go_wp2_with (first | ((with_reducible refine gate_callee (f := 10) rfl ?_); refine goesL_ (some 8) rfl rfl Try.func10 (by kernel_rfl) rfl #[] rfl (by (try simp only [List.map_toArray, List.map_cons, List.map_nil]); first | done | rfl | (simp only [List.length_drop, List.length_take]; rfl)) ?_; (with_reducible refine (concordancelaw01_speaks.calls k  false _ A3.out).mono ?_); rintro e w28 ⟨rfl, hb⟩; refine ⟨_, rfl, ?_⟩; have n0_ := Aside0.mk (below_step (by repeat (first | (with_reducible first | exact HB.out | apply below_alloc | apply pw_below_drewN | apply below_drew1) | exact HB.out)) hb); clear HB; have HB := n0_; clear n0_; (try clear hb); (try clear hb2); (try clear hk); (try clear hi)))
    go_ret
    exact ⟨by first | rfl | (simp [errW_none, errW_some] <;> rfl) | (simp [*, errW_none, errW_some] <;> rfl), by repeat (first | (with_reducible first | exact HB.out | apply below_alloc | apply pw_below_drewN | apply below_drew1) | exact HB.out)⟩

/-- THE ONE PURE STATEMENT of concordancelaw01_KeysAfter: yours. -/
def concordancelaw01_KeysAfter.Pure : Prop := ∀ (a0 : ByteArray) (a1 : ByteArray), a0.size ≤ 140737488351232 → a1.size ≤ 140737488351232 → ∃ k, concordancelaw01_KeysAfter.f k a0 a1 = some true
theorem concordancelaw01_KeysAfter.walk (P : concordancelaw01_KeysAfter.Pure) (a0 : ByteArray) (a1 : ByteArray) (w : World) (w0 : a0.size ≤ 140737488351232) (w1 : a1.size ≤ 140737488351232) :
    Calls Try.prog 9 #[.string a0, .string a1] w fun e w' => e = .returned (.bool true) ∧ Below w.heap.size w w' := by
  obtain ⟨k, h⟩ := P a0 a1 w0 w1
  refine (concordancelaw01_KeysAfter.calls k a0 a1 true w h).mono ?_
  rintro e w' ⟨rfl, hd⟩
  exact ⟨rfl, hd⟩

end Go.Proofs.Ytojelhacelfjkaa.PA

-- Written by a program of this seat out of the translation; Lean checks it.
import Derived.Test.YtojelhacelfjkaaPAx0
namespace Go.Proofs.Ytojelhacelfjkaa.PA
open Go.RowKit Go.Proofs.YtojelhacelfjkaaW.PrintWords Go.Proofs.YtojelhacelfjkaaW.PrintLast Go.Proofs.YtojelhacelfjkaaW.PrintMore
attribute [local go_sem] MyBase.max0 max2_int min2_int max_two min_two max_three min_three max_four min_four   -- for this text's walks alone
set_option linter.unusedVariables false
set_option linter.unusedSimpArgs false

/-! ### concordancelaw01_both: function 11 -/
def concordancelaw01_both.l0 : Nat → List (S52) → List (S36) → List (S40) → Int → Option ((List (S36)) × (List (S40)))
  | 0, _, _, _, _ => none
  | k + 1, x0, x4, x5, x6 => if x6 < (x0.length : Int) then (if x6 < 10 then (if 0 ≤ x6 then (if 0 ≤ (mn (((rd_T52 x0 x6).f0).size : Int) 50) then (if (mn (((rd_T52 x0 x6).f0).size : Int) 50) ≤ (((rd_T52 x0 x6).f0).size : Int) then ((some (([(⟨((rd_T52 x0 x6).f0).extract 0 ((mn (((rd_T52 x0 x6).f0).size : Int) 50) : Int).toNat, (rd_T52 x0 x6).f1, (rd_T52 x0 x6).f2⟩ : S36)] : List (S36)) : List (S36))).bind fun y195 => (if x4.length + y195.length < 4398046511104 then ((some (([(⟨((rd_T52 x0 x6).f0).extract 0 ((mn (((rd_T52 x0 x6).f0).size : Int) 50) : Int).toNat, (rd_T52 x0 x6).f1, (rd_T52 x0 x6).f2⟩ : S40)] : List (S40)) : List (S40))).bind fun y201 => (if x5.length + y201.length < 4398046511104 then (concordancelaw01_both.l0 k x0 (x4 ++ y195) (x5 ++ y201) (wrap64 (x6 + 1))) else (none))) else (none))) else (none)) else (none)) else (none)) else (some (x4, x5))) else (some (x4, x5))
def concordancelaw01_both.f (k : Nat) (l0 : List (S52)) : Option ((List (S36)) × (List (S40))) := concordancelaw01_both.l0 k l0 ([] : List (S36)) ([] : List (S40)) 0
theorem concordancelaw01_both.mono_l : ∀ k, (∀ y0 y1 y2 y3, LeO (concordancelaw01_both.l0 k y0 y1 y2 y3) (concordancelaw01_both.l0 (k + 1) y0 y1 y2 y3))
  | 0 => fun _ _ _ _ r h => by simp [concordancelaw01_both.l0] at h
  | k + 1 => by
    have ih0 := concordancelaw01_both.mono_l k
    · intro y0 y1 y2 y3
      unfold concordancelaw01_both.l0
      repeat' first
      | (with_reducible exact ih0 _ _ _ _)
      | (with_reducible exact LeO.refl _)
      | (with_reducible exact LeO.none _)
      | (with_reducible refine LeO.ite ?_ ?_)
      | (with_reducible refine LeO.bind ?_ (fun _ => ?_))
      | exact ih0 _ _ _ _
      | exact LeO.none _
      | refine LeO.ite ?_ ?_
      | refine LeO.bind ?_ (fun _ => ?_)
theorem concordancelaw01_both.mono : ∀ a0 k, LeO (concordancelaw01_both.f k a0) (concordancelaw01_both.f (k + 1) a0) := by
  intro a0 k
  have ih0 := concordancelaw01_both.mono_l k
  unfold concordancelaw01_both.f
  repeat' first
      | (with_reducible exact ih0 _ _ _ _)
      | (with_reducible exact LeO.refl _)
      | (with_reducible exact LeO.none _)
      | (with_reducible refine LeO.ite ?_ ?_)
      | (with_reducible refine LeO.bind ?_ (fun _ => ?_))
      | exact ih0 _ _ _ _
      | exact LeO.none _
      | refine LeO.ite ?_ ?_
      | refine LeO.bind ?_ (fun _ => ?_)
def concordancelaw01_both.T6 : Bool × List (List Nat × List Nat) := (true, [([], []), ([], []), ([0, 1], [0, 1]), ([2], [2]), ([3], [3]), ([], []), ([], []), ([5, 6], [5, 6]), ([7], [7]), ([8], [8]), ([9], [9]), ([10], [10]), ([4, 11], [4, 11]), ([], []), ([], []), ([13, 14], [13, 14]), ([15], [15]), ([16], [16]), ([], []), ([], []), ([18, 19], [18, 19]), ([20], [20]), ([21], [21]), ([12, 17, 22], [12, 17, 22]), ([], []), ([24, 23, 0, 1, 2, 3, 4, 5, 6, 7, 8, 9, 10, 11, 12, 13, 14, 15, 16, 17, 18, 19, 20, 21, 22, 23, 24], [23, 24])])
def concordancelaw01_both.B6 : List Nat := [0, 0, 3, 7, 15, 0, 0, 96, 224, 480, 992, 2016, 4095, 0, 0, 24576, 57344, 122880, 0, 0, 786432, 1835008, 3932160, 8388607, 0, 33554431]
theorem concordancelaw01_both.tab6 : rtab .any (opsOf Try.f11 6) = concordancelaw01_both.T6 := by kernel_rfl
theorem concordancelaw01_both.bits6 : waitsOk concordancelaw01_both.T6.2 concordancelaw01_both.B6 = true := by kernel_rfl
def concordancelaw01_both.T7 : Bool × List (List Nat × List Nat) := (true, [([], []), ([], []), ([1], [1]), ([0, 2], [0, 2]), ([], []), ([], []), ([5], [5]), ([4, 6, 3], [4, 6]), ([3, 7, 0, 1, 2, 3], [0, 3]), ([7, 8, 0, 1, 2, 3, 4, 5, 6, 7, 8], [4, 7])])
def concordancelaw01_both.B7 : List Nat := [0, 0, 2, 7, 0, 0, 32, 127, 255, 511]
theorem concordancelaw01_both.tab7 : rtab .any (opsOf Try.f11 7) = concordancelaw01_both.T7 := by kernel_rfl
theorem concordancelaw01_both.bits7 : waitsOk concordancelaw01_both.T7.2 concordancelaw01_both.B7 = true := by kernel_rfl
set_option maxHeartbeats 8000000 in
set_option maxRecDepth 100000 in
theorem concordancelaw01_both.calls (k : Nat) (A0 : Option Addr) (c0 : Nat) (l0 : List (S52)) (r1 : List (S36)) (r2 : List (S40)) (w : World) (hr0 : Kd.C k52 w A0 l0.length l0) (hc0 : l0.length ≤ c0) (h : concordancelaw01_both.f k l0 = some (r1, r2)) :
    Calls Try.prog 11 #[.slice A0 l0.length c0] w fun e w' => ∃ v0_ v1_ : Value, e = .returned (.tuple #[v0_, v1_]) ∧ Kd.R k36 36 w' w.heap.size (fun _ => True) v0_ r1 ∧ Kd.R k40 40 w' w.heap.size (fun _ => True) v1_ r2 ∧ Below w.heap.size w w' := by
  have hu52 := Try.underlying52
  have HR0 := Aside0.mk hr0
  have HC0 := Aside0.mk hc0
  clear hr0 hc0
  have HB := Aside0.mk (Below.refl w.heap.size w)
  have H : (concordancelaw01_both.l0 k l0 ([] : List (S36)) ([] : List (S40)) 0) = some (r1, r2) := h
  clear h
  have H' := Aside0.mk H
  clear H
  go_enter Try.func11, Try.ntmps11
  go_wp2
  go_loopg [4, 5, 6] k (fun kq v4 v5 v6 w' => ∃ (x4_1 : List (S36)) (x5_1 : List (S40)) (x6_1 : Int), v6 = .int .i64 x6_1 ∧ Aside0 (concordancelaw01_both.l0 kq l0 x4_1 x5_1 x6_1 = some (r1, r2)) ∧ Aside0 (kq ≤ k) ∧ Aside0 (Kd.R k36 36 w' w.heap.size (fun _ => True) v4 x4_1) ∧ Aside0 (Kd.R k40 40 w' w.heap.size (fun _ => True) v5 x5_1) ∧ Aside0 (Below w.heap.size w w'))
  case atStart => exact ⟨(([] : List (S36))), (([] : List (S40))), (0), (by first | rfl | (simp; done) | (simp [MyBase.ne_nil]; done) | (simp [*]; done)), H', ⟨Nat.le_refl _⟩, ⟨by first | exact Kd.R_nil _ _ _ _ _ | exact Kd.N_nil _ _ _ _ _ | exact Kd.V_nil _ _ _ _ _ | exact Kd.Q_nil _ _ _ _ _ | exact Kd.S_nil _ _ _ _ _⟩, ⟨by first | exact Kd.R_nil _ _ _ _ _ | exact Kd.N_nil _ _ _ _ _ | exact Kd.V_nil _ _ _ _ _ | exact Kd.Q_nil _ _ _ _ _ | exact Kd.S_nil _ _ _ _ _⟩, ⟨by repeat (first | (with_reducible first | exact HB.out | apply below_alloc | apply pw_below_drewN | apply below_drew1) | exact HB.out)⟩⟩
  case round =>
    clear H'
    try clear c1
    obtain ⟨x4_1, x5_1, x6_1, rfl, HA, HK1, HO_4, HO_5, HB⟩ := hrel
    cases gk with
    | zero => exact absurd HA.out (by simp [concordancelaw01_both.l0])
    | succ k1 =>
      have H := HA.out
      clear HA
      simp only [concordancelaw01_both.l0] at H
      by_cases c2 : x6_1 < (l0.length : Int)
      · rw [if_pos c2] at H
        have c2b0 : decide (x6_1 < (l0.length : Int)) = true := decide_eq_true c2
        clear c2
        by_cases c3 : x6_1 < 10
        · rw [if_pos c3] at H
          have c3b0 : decide (x6_1 < 10) = true := decide_eq_true c3
          clear c3
          by_cases c4 : 0 ≤ x6_1
          · rw [if_pos c4] at H
            have c4b0 : decide (0 ≤ x6_1) = true := decide_eq_true c4
            clear c4
            obtain ⟨ji5, hji5⟩ : ∃ j_ : Int, (mn (((rd_T52 l0 x6_1).f0).size : Int) 50) = j_ := ⟨_, rfl⟩
            replace H : (if 0 ≤ (ji5) then (if (ji5) ≤ (((rd_T52 l0 x6_1).f0).size : Int) then ((some (([(⟨((rd_T52 l0 x6_1).f0).extract 0 ((ji5) : Int).toNat, (rd_T52 l0 x6_1).f1, (rd_T52 l0 x6_1).f2⟩ : S36)] : List (S36)) : List (S36))).bind fun y195 => (if x4_1.length + y195.length < 4398046511104 then ((some (([(⟨((rd_T52 l0 x6_1).f0).extract 0 ((ji5) : Int).toNat, (rd_T52 l0 x6_1).f1, (rd_T52 l0 x6_1).f2⟩ : S40)] : List (S40)) : List (S40))).bind fun y201 => (if x5_1.length + y201.length < 4398046511104 then (concordancelaw01_both.l0 k1 l0 (x4_1 ++ y195) (x5_1 ++ y201) (wrap64 (x6_1 + 1))) else (none))) else (none))) else (none)) else (none)) = some (r1, r2) := by first | (rw [hji5] at H; exact H) | (simp only [hji5] at H ⊢; exact H)
            have hji5_ : (if 50 < (((rd_T52 l0 x6_1).f0).size : Int) then 50 else (((rd_T52 l0 x6_1).f0).size : Int)) = ji5 := hji5
            by_cases c6 : 0 ≤ (ji5)
            · rw [if_pos c6] at H
              have c6b0 := eq_true c6
              have c6b1 : decide (0 ≤ (ji5)) = true := decide_eq_true c6
              clear c6
              by_cases c7 : (ji5) ≤ (((rd_T52 l0 x6_1).f0).size : Int)
              · rw [if_pos c7] at H
                have c7b0 := eq_true c7
                have c7b1 : decide ((ji5) ≤ (((rd_T52 l0 x6_1).f0).size : Int)) = true := decide_eq_true c7
                clear c7
                obtain ⟨y195, hy195⟩ : ∃ y_ : List (S36), y_ = (([(⟨((rd_T52 l0 x6_1).f0).extract 0 ((ji5) : Int).toNat, (rd_T52 l0 x6_1).f1, (rd_T52 l0 x6_1).f2⟩ : S36)] : List (S36))) := ⟨_, rfl⟩
                replace H : (if x4_1.length + y195.length < 4398046511104 then ((some (([(⟨((rd_T52 l0 x6_1).f0).extract 0 ((ji5) : Int).toNat, (rd_T52 l0 x6_1).f1, (rd_T52 l0 x6_1).f2⟩ : S40)] : List (S40)) : List (S40))).bind fun y201 => (if x5_1.length + y201.length < 4398046511104 then (concordancelaw01_both.l0 k1 l0 (x4_1 ++ y195) (x5_1 ++ y201) (wrap64 (x6_1 + 1))) else (none))) else (none)) = some (r1, r2) := by first | (rw [hy195]; with_reducible exact H) | (have H2_ := (Option.bind_some _ _).symm.trans H; rw [hy195]; with_reducible exact H2_) | (have H2_ := (Option.bind_some _ _).symm.trans H; with_reducible exact H2_) | with_reducible exact H | (rw [hy195]; exact H) | exact H
                have Ny195 := Aside0.mk hy195
                clear hy195
                by_cases c8 : x4_1.length + y195.length < 4398046511104
                · rw [if_pos c8] at H
                  have LMc8 := Aside0.mk c8
                  clear c8
                  obtain ⟨y198, hy198⟩ : ∃ y_ : List (S36), y_ = (x4_1 ++ y195) := ⟨_, rfl⟩
                  replace H : ((some (([(⟨((rd_T52 l0 x6_1).f0).extract 0 ((ji5) : Int).toNat, (rd_T52 l0 x6_1).f1, (rd_T52 l0 x6_1).f2⟩ : S40)] : List (S40)) : List (S40))).bind fun y201 => (if x5_1.length + y201.length < 4398046511104 then (concordancelaw01_both.l0 k1 l0 y198 (x5_1 ++ y201) (wrap64 (x6_1 + 1))) else (none))) = some (r1, r2) := by first | (rw [hy198]; with_reducible exact H) | (have H2_ := (Option.bind_some _ _).symm.trans H; rw [hy198]; with_reducible exact H2_) | (have H2_ := (Option.bind_some _ _).symm.trans H; with_reducible exact H2_) | with_reducible exact H | (rw [hy198]; exact H) | exact H
                  have Ny198 := Aside0.mk hy198
                  clear hy198
                  obtain ⟨y201, hy201⟩ : ∃ y_ : List (S40), y_ = (([(⟨((rd_T52 l0 x6_1).f0).extract 0 ((ji5) : Int).toNat, (rd_T52 l0 x6_1).f1, (rd_T52 l0 x6_1).f2⟩ : S40)] : List (S40))) := ⟨_, rfl⟩
                  replace H : (if x5_1.length + y201.length < 4398046511104 then (concordancelaw01_both.l0 k1 l0 y198 (x5_1 ++ y201) (wrap64 (x6_1 + 1))) else (none)) = some (r1, r2) := by first | (rw [hy201]; with_reducible exact H) | (have H2_ := (Option.bind_some _ _).symm.trans H; rw [hy201]; with_reducible exact H2_) | (have H2_ := (Option.bind_some _ _).symm.trans H; with_reducible exact H2_) | with_reducible exact H | (rw [hy201]; exact H) | exact H
                  have Ny201 := Aside0.mk hy201
                  clear hy201
                  by_cases c9 : x5_1.length + y201.length < 4398046511104
                  · rw [if_pos c9] at H
                    have LMc9 := Aside0.mk c9
                    clear c9
                    obtain ⟨y204, hy204⟩ : ∃ y_ : List (S40), y_ = (x5_1 ++ y201) := ⟨_, rfl⟩
                    replace H : (concordancelaw01_both.l0 k1 l0 y198 y204 (wrap64 (x6_1 + 1))) = some (r1, r2) := by first | (rw [hy204]; with_reducible exact H) | (have H2_ := (Option.bind_some _ _).symm.trans H; rw [hy204]; with_reducible exact H2_) | (have H2_ := (Option.bind_some _ _).symm.trans H; with_reducible exact H2_) | with_reducible exact H | (rw [hy204]; exact H) | exact H
                    have Ny204 := Aside0.mk hy204
                    clear hy204
                    have H' := Aside0.mk H
                    clear H
                    try go_wp2
                    have n0_ := Aside0.mk (Kd.R_drew HO_4.out)
                    have n1_ := Aside0.mk (Kd.R_drew HO_5.out)
                    have n2_ := Aside0.mk (below_drew1 HB.out)
                    clear HO_4
                    clear HO_5
                    clear HB
                    have HO_4 := n0_
                    have HO_5 := n1_
                    have HB := n2_
                    clear n0_ n1_ n2_
                    have p190 : 0 ≤ (x6_1 : Int) := of_decide_eq_true (by first | (with_reducible assumption) | assumption)
                    have q190 : x6_1 < (l0.length : Int) := of_decide_eq_true (by first | (with_reducible assumption) | assumption)
                    obtain ⟨ad190, e190, hx190_0, hx190_1, hx190_2⟩ := at_T52 HR0.out x6_1 p190 q190
                    have hw190_2 := hx190_2
                    have hw190_1 := hx190_1
                    have hw190_0 := hx190_0
                    cases e190
                    replace hx190_0 := (HB.out.cell (World.block_lt_of_cell? w _ hx190_0)).trans hx190_0
                    replace hx190_1 := (HB.out.cell (World.block_lt_of_cell? w _ hx190_1)).trans hx190_1
                    replace hx190_2 := (HB.out.cell (World.block_lt_of_cell? w _ hx190_2)).trans hx190_2
                    replace p190 := eq_true p190
                    replace q190 := eq_true q190
                    have p191 : 0 ≤ (x6_1 : Int) := of_decide_eq_true (by first | (with_reducible assumption) | assumption)
                    have q191 : x6_1 < (l0.length : Int) := of_decide_eq_true (by first | (with_reducible assumption) | assumption)
                    obtain ⟨ad191, e191, hx191_0, hx191_1, hx191_2⟩ := at_T52 HR0.out x6_1 p191 q191
                    have hw191_2 := hx191_2
                    have hw191_1 := hx191_1
                    have hw191_0 := hx191_0
                    obtain rfl : ad190 = ad191 := (by injection e191)
                    replace hx191_0 := (HB.out.cell (World.block_lt_of_cell? w _ hx191_0)).trans hx191_0
                    replace hx191_1 := (HB.out.cell (World.block_lt_of_cell? w _ hx191_1)).trans hx191_1
                    replace hx191_2 := (HB.out.cell (World.block_lt_of_cell? w _ hx191_2)).trans hx191_2
                    replace p191 := eq_true p191
                    replace q191 := eq_true q191
                    have p192 : 0 ≤ (x6_1 : Int) := of_decide_eq_true (by first | (with_reducible assumption) | assumption)
                    have q192 : x6_1 < (l0.length : Int) := of_decide_eq_true (by first | (with_reducible assumption) | assumption)
                    obtain ⟨ad192, e192, hx192_0, hx192_1, hx192_2⟩ := at_T52 HR0.out x6_1 p192 q192
                    have hw192_2 := hx192_2
                    have hw192_1 := hx192_1
                    have hw192_0 := hx192_0
                    obtain rfl : ad190 = ad192 := (by injection e192)
                    replace hx192_0 := (HB.out.cell (World.block_lt_of_cell? w _ hx192_0)).trans hx192_0
                    replace hx192_1 := (HB.out.cell (World.block_lt_of_cell? w _ hx192_1)).trans hx192_1
                    replace hx192_2 := (HB.out.cell (World.block_lt_of_cell? w _ hx192_2)).trans hx192_2
                    replace p192 := eq_true p192
                    replace q192 := eq_true q192
                    have p193 : 0 ≤ (x6_1 : Int) := of_decide_eq_true (by first | (with_reducible assumption) | assumption)
                    have q193 : x6_1 < (l0.length : Int) := of_decide_eq_true (by first | (with_reducible assumption) | assumption)
                    obtain ⟨ad193, e193, hx193_0, hx193_1, hx193_2⟩ := at_T52 HR0.out x6_1 p193 q193
                    have hw193_2 := hx193_2
                    have hw193_1 := hx193_1
                    have hw193_0 := hx193_0
                    obtain rfl : ad190 = ad193 := (by injection e193)
                    replace hx193_0 := (HB.out.cell (World.block_lt_of_cell? w _ hx193_0)).trans hx193_0
                    replace hx193_1 := (HB.out.cell (World.block_lt_of_cell? w _ hx193_1)).trans hx193_1
                    replace hx193_2 := (HB.out.cell (World.block_lt_of_cell? w _ hx193_2)).trans hx193_2
                    replace p193 := eq_true p193
                    replace q193 := eq_true q193
                    refine start_ (n := 26) (S := fun w' => w'.cell? (ad190.add ((x6_1).toNat * 3)) = some (.string ((rd_T52 l0 x6_1).f0)) ∧ w'.cell? ⟨(ad190.add ((x6_1).toNat * 3)).block, (ad190.add ((x6_1).toNat * 3)).off + 1, none⟩ = some (.int .i64 ((rd_T52 l0 x6_1).f1)) ∧ w'.cell? ⟨(ad190.add ((x6_1).toNat * 3)).block, (ad190.add ((x6_1).toNat * 3)).off + 2, none⟩ = some (.bool ((rd_T52 l0 x6_1).f2)) ∧ w'.cell? (ad190.add ((x6_1).toNat * 3)) = some (.string ((rd_T52 l0 x6_1).f0)) ∧ w'.cell? ⟨(ad190.add ((x6_1).toNat * 3)).block, (ad190.add ((x6_1).toNat * 3)).off + 1, none⟩ = some (.int .i64 ((rd_T52 l0 x6_1).f1)) ∧ w'.cell? ⟨(ad190.add ((x6_1).toNat * 3)).block, (ad190.add ((x6_1).toNat * 3)).off + 2, none⟩ = some (.bool ((rd_T52 l0 x6_1).f2)) ∧ w'.cell? (ad190.add ((x6_1).toNat * 3)) = some (.string ((rd_T52 l0 x6_1).f0)) ∧ w'.cell? ⟨(ad190.add ((x6_1).toNat * 3)).block, (ad190.add ((x6_1).toNat * 3)).off + 1, none⟩ = some (.int .i64 ((rd_T52 l0 x6_1).f1)) ∧ w'.cell? ⟨(ad190.add ((x6_1).toNat * 3)).block, (ad190.add ((x6_1).toNat * 3)).off + 2, none⟩ = some (.bool ((rd_T52 l0 x6_1).f2)) ∧ w'.cell? (ad190.add ((x6_1).toNat * 3)) = some (.string ((rd_T52 l0 x6_1).f0)) ∧ w'.cell? ⟨(ad190.add ((x6_1).toNat * 3)).block, (ad190.add ((x6_1).toNat * 3)).off + 1, none⟩ = some (.int .i64 ((rd_T52 l0 x6_1).f1)) ∧ w'.cell? ⟨(ad190.add ((x6_1).toNat * 3)).block, (ad190.add ((x6_1).toNat * 3)).off + 2, none⟩ = some (.bool ((rd_T52 l0 x6_1).f2))) (ds := []) #[false, false, false, false, false, false, false, false, false, false, false, false, false, false, false, false, false, false, false, false, false, false, false, false, false, false] (by kernel_rfl) rfl rfl ⟨((HB.out.cell (World.block_lt_of_cell? w _ hw190_0)).trans hw190_0), ((HB.out.cell (World.block_lt_of_cell? w _ hw190_1)).trans hw190_1), ((HB.out.cell (World.block_lt_of_cell? w _ hw190_2)).trans hw190_2), ((HB.out.cell (World.block_lt_of_cell? w _ hw191_0)).trans hw191_0), ((HB.out.cell (World.block_lt_of_cell? w _ hw191_1)).trans hw191_1), ((HB.out.cell (World.block_lt_of_cell? w _ hw191_2)).trans hw191_2), ((HB.out.cell (World.block_lt_of_cell? w _ hw192_0)).trans hw192_0), ((HB.out.cell (World.block_lt_of_cell? w _ hw192_1)).trans hw192_1), ((HB.out.cell (World.block_lt_of_cell? w _ hw192_2)).trans hw192_2), ((HB.out.cell (World.block_lt_of_cell? w _ hw193_0)).trans hw193_0), ((HB.out.cell (World.block_lt_of_cell? w _ hw193_1)).trans hw193_1), ((HB.out.cell (World.block_lt_of_cell? w _ hw193_2)).trans hw193_2)⟩ (fun hHeld => ?_); refine with_tabW concordancelaw01_both.tab6 concordancelaw01_both.bits6 (fun HT_ HW_ => ?_)
                    generalize wr.drew = w10 at HO_4 HO_5 HB hx190_0 hx190_1 hx190_2 hx191_0 hx191_1 hx191_2 hx192_0 hx192_1 hx192_2 hx193_0 hx193_1 hx193_2 hHeld ⊢
                    refine pure_ (i := 0) (N := some 18) (v := ?_) (a' := ?_) #[true, false, false, false, false, false, false, false, false, false, false, false, false, false, false, false, false, false, false, false, false, false, false, false, false, false] rfl rfl (any_of HT_.out (by kernel_rfl)) (fun _ _ _ h => h) (Or.inl ⟨by rfl, ?_⟩) ?_ ?_
                    rotate_left
                    · intro w'
                      go_simp
                      with_reducible rfl
                    rotate_left
                    · simp only [Act.put, List.setIfInBounds_toArray, List.set_cons_zero, List.set_cons_succ, i64_w, i32_w]
                      rfl
                    refine pure_ (i := 1) (N := some 19) (v := ?_) (a' := ?_) #[true, true, false, false, false, false, false, false, false, false, false, false, false, false, false, false, false, false, false, false, false, false, false, false, false, false] rfl rfl (any_of HT_.out (by kernel_rfl)) (fun _ _ _ h => h) (Or.inl ⟨by rfl, ?_⟩) ?_ ?_
                    rotate_left
                    · intro w'
                      go_simp
                      with_reducible rfl
                    rotate_left
                    · simp only [Act.put, List.setIfInBounds_toArray, List.set_cons_zero, List.set_cons_succ, i64_w, i32_w]
                      rfl
                    refine pure_ (i := 2) (N := some 20) (v := ?_) (a' := ?_) #[true, true, true, false, false, false, false, false, false, false, false, false, false, false, false, false, false, false, false, false, false, false, false, false, false, false] rfl rfl (any_of HT_.out (by kernel_rfl)) (fun _ _ _ h => h) (Or.inl ⟨by rfl, ?_⟩) ?_ ?_
                    rotate_left
                    · intro w'
                      go_simp
                      with_reducible rfl
                    rotate_left
                    · simp only [Act.put, List.setIfInBounds_toArray, List.set_cons_zero, List.set_cons_succ, i64_w, i32_w]
                      rfl
                    refine pure_ (i := 3) (N := some 21) (v := ?_) (a' := ?_) #[true, true, true, true, false, false, false, false, false, false, false, false, false, false, false, false, false, false, false, false, false, false, false, false, false, false] rfl rfl (any_of HT_.out (by kernel_rfl)) (fun _ _ _ h => h) (Or.inl ⟨by rfl, ?_⟩) ?_ ?_
                    rotate_left
                    · intro w'
                      go_simp
                      with_reducible rfl
                    rotate_left
                    · simp only [Act.put, List.setIfInBounds_toArray, List.set_cons_zero, List.set_cons_succ, i64_w, i32_w]
                      rfl
                    refine pure_ (i := 5) (N := some 23) (v := ?_) (a' := ?_) #[true, true, true, true, false, true, false, false, false, false, false, false, false, false, false, false, false, false, false, false, false, false, false, false, false, false] rfl rfl (any_of HT_.out (by kernel_rfl)) (fun _ _ _ h => h) (Or.inl ⟨by rfl, ?_⟩) ?_ ?_
                    rotate_left
                    · intro w'
                      go_simp
                      with_reducible rfl
                    rotate_left
                    · simp only [Act.put, List.setIfInBounds_toArray, List.set_cons_zero, List.set_cons_succ, i64_w, i32_w]
                      rfl
                    refine pure_ (i := 6) (N := some 24) (v := ?_) (a' := ?_) #[true, true, true, true, false, true, true, false, false, false, false, false, false, false, false, false, false, false, false, false, false, false, false, false, false, false] rfl rfl (any_of HT_.out (by kernel_rfl)) (fun _ _ _ h => h) (Or.inl ⟨by rfl, ?_⟩) ?_ ?_
                    rotate_left
                    · intro w'
                      go_simp
                      with_reducible rfl
                    rotate_left
                    · simp only [Act.put, List.setIfInBounds_toArray, List.set_cons_zero, List.set_cons_succ, i64_w, i32_w]
                      rfl
                    refine pure_ (i := 7) (N := some 25) (v := ?_) (a' := ?_) #[true, true, true, true, false, true, true, true, false, false, false, false, false, false, false, false, false, false, false, false, false, false, false, false, false, false] rfl rfl (any_of HT_.out (by kernel_rfl)) (fun _ _ _ h => h) (Or.inl ⟨by rfl, ?_⟩) ?_ ?_
                    rotate_left
                    · intro w'
                      go_simp
                      with_reducible rfl
                    rotate_left
                    · simp only [Act.put, List.setIfInBounds_toArray, List.set_cons_zero, List.set_cons_succ, i64_w, i32_w]
                      rfl
                    refine pure_ (i := 8) (N := some 26) (v := ?_) (a' := ?_) #[true, true, true, true, false, true, true, true, true, false, false, false, false, false, false, false, false, false, false, false, false, false, false, false, false, false] rfl rfl (any_of HT_.out (by kernel_rfl)) (fun _ _ _ h => h) (Or.inl ⟨by rfl, ?_⟩) ?_ ?_
                    rotate_left
                    · intro w'
                      go_simp
                      with_reducible rfl
                    rotate_left
                    · simp only [Act.put, List.setIfInBounds_toArray, List.set_cons_zero, List.set_cons_succ, i64_w, i32_w]
                      rfl
                    refine pure_ (i := 13) (N := some 31) (v := ?_) (a' := ?_) #[true, true, true, true, false, true, true, true, true, false, false, false, false, true, false, false, false, false, false, false, false, false, false, false, false, false] rfl rfl (any_of HT_.out (by kernel_rfl)) (fun _ _ _ h => h) (Or.inl ⟨by rfl, ?_⟩) ?_ ?_
                    rotate_left
                    · intro w'
                      go_simp
                      with_reducible rfl
                    rotate_left
                    · simp only [Act.put, List.setIfInBounds_toArray, List.set_cons_zero, List.set_cons_succ, i64_w, i32_w]
                      rfl
                    refine pure_ (i := 14) (N := some 32) (v := ?_) (a' := ?_) #[true, true, true, true, false, true, true, true, true, false, false, false, false, true, true, false, false, false, false, false, false, false, false, false, false, false] rfl rfl (any_of HT_.out (by kernel_rfl)) (fun _ _ _ h => h) (Or.inl ⟨by rfl, ?_⟩) ?_ ?_
                    rotate_left
                    · intro w'
                      go_simp
                      with_reducible rfl
                    rotate_left
                    · simp only [Act.put, List.setIfInBounds_toArray, List.set_cons_zero, List.set_cons_succ, i64_w, i32_w]
                      rfl
                    refine pure_ (i := 15) (N := some 33) (v := ?_) (a' := ?_) #[true, true, true, true, false, true, true, true, true, false, false, false, false, true, true, true, false, false, false, false, false, false, false, false, false, false] rfl rfl (any_of HT_.out (by kernel_rfl)) (fun _ _ _ h => h) (Or.inl ⟨by rfl, ?_⟩) ?_ ?_
                    rotate_left
                    · intro w'
                      go_simp
                      with_reducible rfl
                    rotate_left
                    · simp only [Act.put, List.setIfInBounds_toArray, List.set_cons_zero, List.set_cons_succ, i64_w, i32_w]
                      rfl
                    refine pure_ (i := 16) (N := some 34) (v := ?_) (a' := ?_) #[true, true, true, true, false, true, true, true, true, false, false, false, false, true, true, true, true, false, false, false, false, false, false, false, false, false] rfl rfl (any_of HT_.out (by kernel_rfl)) (fun _ _ _ h => h) (Or.inl ⟨by rfl, ?_⟩) ?_ ?_
                    rotate_left
                    · intro w'
                      go_simp
                      with_reducible rfl
                    rotate_left
                    · simp only [Act.put, List.setIfInBounds_toArray, List.set_cons_zero, List.set_cons_succ, i64_w, i32_w]
                      rfl
                    refine pure_ (i := 18) (N := some 36) (v := ?_) (a' := ?_) #[true, true, true, true, false, true, true, true, true, false, false, false, false, true, true, true, true, false, true, false, false, false, false, false, false, false] rfl rfl (any_of HT_.out (by kernel_rfl)) (fun _ _ _ h => h) (Or.inl ⟨by rfl, ?_⟩) ?_ ?_
                    rotate_left
                    · intro w'
                      go_simp
                      with_reducible rfl
                    rotate_left
                    · simp only [Act.put, List.setIfInBounds_toArray, List.set_cons_zero, List.set_cons_succ, i64_w, i32_w]
                      rfl
                    refine pure_ (i := 19) (N := some 37) (v := ?_) (a' := ?_) #[true, true, true, true, false, true, true, true, true, false, false, false, false, true, true, true, true, false, true, true, false, false, false, false, false, false] rfl rfl (any_of HT_.out (by kernel_rfl)) (fun _ _ _ h => h) (Or.inl ⟨by rfl, ?_⟩) ?_ ?_
                    rotate_left
                    · intro w'
                      go_simp
                      with_reducible rfl
                    rotate_left
                    · simp only [Act.put, List.setIfInBounds_toArray, List.set_cons_zero, List.set_cons_succ, i64_w, i32_w]
                      rfl
                    refine pure_ (i := 20) (N := some 38) (v := ?_) (a' := ?_) #[true, true, true, true, false, true, true, true, true, false, false, false, false, true, true, true, true, false, true, true, true, false, false, false, false, false] rfl rfl (any_of HT_.out (by kernel_rfl)) (fun _ _ _ h => h) (Or.inl ⟨by rfl, ?_⟩) ?_ ?_
                    rotate_left
                    · intro w'
                      go_simp
                      with_reducible rfl
                    rotate_left
                    · simp only [Act.put, List.setIfInBounds_toArray, List.set_cons_zero, List.set_cons_succ, i64_w, i32_w]
                      rfl
                    refine pure_ (i := 21) (N := some 39) (v := ?_) (a' := ?_) #[true, true, true, true, false, true, true, true, true, false, false, false, false, true, true, true, true, false, true, true, true, true, false, false, false, false] rfl rfl (any_of HT_.out (by kernel_rfl)) (fun _ _ _ h => h) (Or.inl ⟨by rfl, ?_⟩) ?_ ?_
                    rotate_left
                    · intro w'
                      go_simp
                      with_reducible rfl
                    rotate_left
                    · simp only [Act.put, List.setIfInBounds_toArray, List.set_cons_zero, List.set_cons_succ, i64_w, i32_w]
                      rfl
                    refine take_ (i := 4) (N := some 22) (v := ?_) (a' := ?_) #[true, true, true, true, true, true, true, true, true, false, false, false, false, true, true, true, true, false, true, true, true, true, false, false, false, false] rfl rfl (take_ofW HT_.out HW_.out (by kernel_rfl)) (fun _ _ _ h => h) (Or.inl ⟨by rfl, ?_⟩) hHeld ?_ ?_
                    rotate_left
                    · rintro w' ⟨s0, s1, s2, s3, s4, s5, s6, s7, s8, s9, s10, s11⟩
                      go_simp
                      with_reducible rfl
                    rotate_left
                    · simp only [Act.put, List.setIfInBounds_toArray, List.set_cons_zero, List.set_cons_succ, i64_w, i32_w]
                      rfl
                    refine take_ (i := 9) (N := some 27) (v := ?_) (a' := ?_) #[true, true, true, true, true, true, true, true, true, true, false, false, false, true, true, true, true, false, true, true, true, true, false, false, false, false] rfl rfl (take_ofW HT_.out HW_.out (by kernel_rfl)) (fun _ _ _ h => h) (Or.inl ⟨by rfl, ?_⟩) hHeld ?_ ?_
                    rotate_left
                    · rintro w' ⟨s0, s1, s2, s3, s4, s5, s6, s7, s8, s9, s10, s11⟩
                      go_simp
                      with_reducible rfl
                    rotate_left
                    · simp only [Act.put, List.setIfInBounds_toArray, List.set_cons_zero, List.set_cons_succ, i64_w, i32_w]
                      rfl
                    refine pure_ (i := 10) (N := some 28) (v := ?_) (a' := ?_) #[true, true, true, true, true, true, true, true, true, true, true, false, false, true, true, true, true, false, true, true, true, true, false, false, false, false] rfl rfl (any_of HT_.out (by kernel_rfl)) (fun _ _ _ h => h) (Or.inl ⟨by rfl, ?_⟩) ?_ ?_
                    rotate_left
                    · intro w'
                      go_simp
                      with_reducible rfl
                    rotate_left
                    · simp only [Act.put, List.setIfInBounds_toArray, List.set_cons_zero, List.set_cons_succ, i64_w, i32_w]
                      rfl
                    refine pure_ (i := 11) (N := some 29) (v := ?_) (a' := ?_) #[true, true, true, true, true, true, true, true, true, true, true, true, false, true, true, true, true, false, true, true, true, true, false, false, false, false] rfl rfl (any_of HT_.out (by kernel_rfl)) (fun _ _ _ h => h) (Or.inl ⟨by rfl, ?_⟩) ?_ ?_
                    rotate_left
                    · intro w'
                      go_simp
                      with_reducible rfl
                    rotate_left
                    · simp only [Act.put, List.setIfInBounds_toArray, List.set_cons_zero, List.set_cons_succ, i64_w, i32_w]
                      rfl
                    refine pure_ (i := 12) (N := some 30) (v := ?_) (a' := ?_) #[true, true, true, true, true, true, true, true, true, true, true, true, true, true, true, true, true, false, true, true, true, true, false, false, false, false] rfl rfl (any_of HT_.out (by kernel_rfl)) (fun _ _ _ h => h) (Or.inl ⟨by rfl, ?_⟩) ?_ ?_
                    rotate_left
                    · intro w'
                      go_simp
                      with_reducible rfl
                    rotate_left
                    · simp only [Act.put, List.setIfInBounds_toArray, List.set_cons_zero, List.set_cons_succ, i64_w, i32_w]
                      rfl
                    refine take_ (i := 17) (N := some 35) (v := ?_) (a' := ?_) #[true, true, true, true, true, true, true, true, true, true, true, true, true, true, true, true, true, true, true, true, true, true, false, false, false, false] rfl rfl (take_ofW HT_.out HW_.out (by kernel_rfl)) (fun _ _ _ h => h) (Or.inl ⟨by rfl, ?_⟩) hHeld ?_ ?_
                    rotate_left
                    · rintro w' ⟨s0, s1, s2, s3, s4, s5, s6, s7, s8, s9, s10, s11⟩
                      go_simp
                      with_reducible rfl
                    rotate_left
                    · simp only [Act.put, List.setIfInBounds_toArray, List.set_cons_zero, List.set_cons_succ, i64_w, i32_w]
                      rfl
                    refine take_ (i := 22) (N := some 40) (v := ?_) (a' := ?_) #[true, true, true, true, true, true, true, true, true, true, true, true, true, true, true, true, true, true, true, true, true, true, true, false, false, false] rfl rfl (take_ofW HT_.out HW_.out (by kernel_rfl)) (fun _ _ _ h => h) (Or.inl ⟨by rfl, ?_⟩) hHeld ?_ ?_
                    rotate_left
                    · rintro w' ⟨s0, s1, s2, s3, s4, s5, s6, s7, s8, s9, s10, s11⟩
                      go_simp
                      with_reducible rfl
                    rotate_left
                    · simp only [Act.put, List.setIfInBounds_toArray, List.set_cons_zero, List.set_cons_succ, i64_w, i32_w]
                      rfl
                    refine pure_ (i := 23) (N := some 41) (v := ?_) (a' := ?_) #[true, true, true, true, true, true, true, true, true, true, true, true, true, true, true, true, true, true, true, true, true, true, true, true, false, false] rfl rfl (any_of HT_.out (by kernel_rfl)) (fun _ _ _ h => h) (Or.inl ⟨by rfl, ?_⟩) ?_ ?_
                    rotate_left
                    · intro w'
                      go_simp
                      with_reducible rfl
                    rotate_left
                    · simp only [Act.put, List.setIfInBounds_toArray, List.set_cons_zero, List.set_cons_succ, i64_w, i32_w]
                      rfl
                    refine one_ (i := 24) (N := some 7) #[true, true, true, true, true, true, true, true, true, true, true, true, true, true, true, true, true, true, true, true, true, true, true, true, true, false] rfl rfl (one_of HT_.out (by kernel_rfl)) (by decide) (fun K hK => ?_)
                    refine box_step ?hg (N := 7) ?hd (cs := #[.string (⟨#[]⟩ : ByteArray), .int .i64 0, .bool false]) (t := 52) ?hr ?_; (case hd => rfl); (case hg => rfl); (case hr => first | (go_simp; done) | (go_simp; rfl))
                    intro gb194 hg w11 hbox hb
                    have n0_ := Aside0.mk (Kd.R_below (by (with_reducible repeat (first | apply Kd.R_alloc | apply Kd.R_drewN | apply Kd.R_drew)); exact HO_4.out) hb)
                    have n1_ := Aside0.mk (Kd.R_below (by (with_reducible repeat (first | apply Kd.R_alloc | apply Kd.R_drewN | apply Kd.R_drew)); exact HO_5.out) hb)
                    have n2_ := Aside0.mk (below_step (by repeat (first | (with_reducible first | exact HB.out | apply below_alloc | apply pw_below_drewN | apply below_drew1) | exact HB.out)) hb)
                    have n3_ := Aside0.mk (hbox)
                    have n4_ := Aside0.mk ((by rw [hg]; exact (below_size (by repeat (first | (with_reducible first | exact HB.out | apply below_alloc | apply pw_below_drewN | apply below_drew1) | exact HB.out))) : w.heap.size ≤ gb194))
                    have n5_ := Aside0.mk ((by rw [hg]; exact (below_size (by repeat (first | (with_reducible first | exact HB.out | apply below_alloc | apply pw_below_drewN | apply below_drew1) | exact HB.out))) : w.heap.size ≤ gb194))
                    clear HO_4
                    clear HO_5
                    clear HB
                    have HO_4 := n0_
                    have HO_5 := n1_
                    have HB := n2_
                    have BK194 := n3_
                    have GW194 := n4_
                    have GE194 := n5_
                    clear n0_ n1_ n2_ n3_ n4_ n5_
                    clear hb hbox hg
                    refine hK.out _ _ ⟨((HB.out.cell (World.block_lt_of_cell? w _ hw190_0)).trans hw190_0), ((HB.out.cell (World.block_lt_of_cell? w _ hw190_1)).trans hw190_1), ((HB.out.cell (World.block_lt_of_cell? w _ hw190_2)).trans hw190_2), ((HB.out.cell (World.block_lt_of_cell? w _ hw191_0)).trans hw191_0), ((HB.out.cell (World.block_lt_of_cell? w _ hw191_1)).trans hw191_1), ((HB.out.cell (World.block_lt_of_cell? w _ hw191_2)).trans hw191_2), ((HB.out.cell (World.block_lt_of_cell? w _ hw192_0)).trans hw192_0), ((HB.out.cell (World.block_lt_of_cell? w _ hw192_1)).trans hw192_1), ((HB.out.cell (World.block_lt_of_cell? w _ hw192_2)).trans hw192_2), ((HB.out.cell (World.block_lt_of_cell? w _ hw193_0)).trans hw193_0), ((HB.out.cell (World.block_lt_of_cell? w _ hw193_1)).trans hw193_1), ((HB.out.cell (World.block_lt_of_cell? w _ hw193_2)).trans hw193_2)⟩ (fun hHeld => ?_)
                    clear hK K
                    refine norm_ (a' := ?_) ?_ ?_
                    rotate_left
                    · show Act.put _ (some 7) _ = _
                      simp only [Act.put, List.setIfInBounds_toArray, List.set_cons_zero, List.set_cons_succ, i64_w, i32_w]
                      rfl
                    refine one_ (i := 25) (N := none) #[true, true, true, true, true, true, true, true, true, true, true, true, true, true, true, true, true, true, true, true, true, true, true, true, true, true] rfl rfl (one_of HT_.out (by kernel_rfl)) (by decide) (fun K hK => ?_)
                    have hs12 : w11.cell? ⟨gb194, 0, none⟩ = some (.string (⟨#[]⟩ : ByteArray)) := (blk_cell BK194.out 0).trans rfl
                    have hfs12 := blk_frozen BK194.out 0
                    have hs13 : w11.cell? ⟨gb194, 1, none⟩ = some (.int .i64 0) := (blk_cell BK194.out 1).trans rfl
                    have hfs13 := blk_frozen BK194.out 1
                    have hs14 : w11.cell? ⟨gb194, 2, none⟩ = some (.bool false) := (blk_cell BK194.out 2).trans rfl
                    have hfs14 := blk_frozen BK194.out 2
                    refine skip_ (w1 := ?_) (by rfl) rfl ?_ ?_
                    rotate_left
                    · go_simp
                      rfl
                    refine hK.out _ _ ⟨((cell_far (p := ⟨gb194, _, none⟩) (by first | exact Nat.ne_of_lt (Nat.lt_of_lt_of_le (by have := World.block_lt_of_cell? _ _ hw190_0; first | rwa [add_block] at this | exact this) GW194.out) | (rw [add_block]; exact Nat.ne_of_lt (Nat.lt_of_lt_of_le (by have := World.block_lt_of_cell? _ _ hw190_0; first | rwa [add_block] at this | exact this) GW194.out)) | (show (Addr.add _ _).block ≠ _; rw [add_block]; exact Nat.ne_of_lt (Nat.lt_of_lt_of_le (by have := World.block_lt_of_cell? _ _ hw190_0; first | rwa [add_block] at this | exact this) GW194.out)) | (dsimp only; exact Nat.ne_of_lt (Nat.lt_of_lt_of_le (by have := World.block_lt_of_cell? _ _ hw190_0; first | rwa [add_block] at this | exact this) GW194.out))) _).trans (((cell_far (p := ⟨gb194, _, none⟩) (by first | exact Nat.ne_of_lt (Nat.lt_of_lt_of_le (by have := World.block_lt_of_cell? _ _ hw190_0; first | rwa [add_block] at this | exact this) GW194.out) | (rw [add_block]; exact Nat.ne_of_lt (Nat.lt_of_lt_of_le (by have := World.block_lt_of_cell? _ _ hw190_0; first | rwa [add_block] at this | exact this) GW194.out)) | (show (Addr.add _ _).block ≠ _; rw [add_block]; exact Nat.ne_of_lt (Nat.lt_of_lt_of_le (by have := World.block_lt_of_cell? _ _ hw190_0; first | rwa [add_block] at this | exact this) GW194.out)) | (dsimp only; exact Nat.ne_of_lt (Nat.lt_of_lt_of_le (by have := World.block_lt_of_cell? _ _ hw190_0; first | rwa [add_block] at this | exact this) GW194.out))) _).trans (((cell_far (p := ⟨gb194, _, none⟩) (by first | exact Nat.ne_of_lt (Nat.lt_of_lt_of_le (by have := World.block_lt_of_cell? _ _ hw190_0; first | rwa [add_block] at this | exact this) GW194.out) | (rw [add_block]; exact Nat.ne_of_lt (Nat.lt_of_lt_of_le (by have := World.block_lt_of_cell? _ _ hw190_0; first | rwa [add_block] at this | exact this) GW194.out)) | (show (Addr.add _ _).block ≠ _; rw [add_block]; exact Nat.ne_of_lt (Nat.lt_of_lt_of_le (by have := World.block_lt_of_cell? _ _ hw190_0; first | rwa [add_block] at this | exact this) GW194.out)) | (dsimp only; exact Nat.ne_of_lt (Nat.lt_of_lt_of_le (by have := World.block_lt_of_cell? _ _ hw190_0; first | rwa [add_block] at this | exact this) GW194.out))) _).trans (hHeld.1)))))), ((cell_far (p := ⟨gb194, _, none⟩) (by first | exact Nat.ne_of_lt (Nat.lt_of_lt_of_le (by have := World.block_lt_of_cell? _ _ hw190_1; first | rwa [add_block] at this | exact this) GW194.out) | (rw [add_block]; exact Nat.ne_of_lt (Nat.lt_of_lt_of_le (by have := World.block_lt_of_cell? _ _ hw190_1; first | rwa [add_block] at this | exact this) GW194.out)) | (show (Addr.add _ _).block ≠ _; rw [add_block]; exact Nat.ne_of_lt (Nat.lt_of_lt_of_le (by have := World.block_lt_of_cell? _ _ hw190_1; first | rwa [add_block] at this | exact this) GW194.out)) | (dsimp only; exact Nat.ne_of_lt (Nat.lt_of_lt_of_le (by have := World.block_lt_of_cell? _ _ hw190_1; first | rwa [add_block] at this | exact this) GW194.out))) _).trans (((cell_far (p := ⟨gb194, _, none⟩) (by first | exact Nat.ne_of_lt (Nat.lt_of_lt_of_le (by have := World.block_lt_of_cell? _ _ hw190_1; first | rwa [add_block] at this | exact this) GW194.out) | (rw [add_block]; exact Nat.ne_of_lt (Nat.lt_of_lt_of_le (by have := World.block_lt_of_cell? _ _ hw190_1; first | rwa [add_block] at this | exact this) GW194.out)) | (show (Addr.add _ _).block ≠ _; rw [add_block]; exact Nat.ne_of_lt (Nat.lt_of_lt_of_le (by have := World.block_lt_of_cell? _ _ hw190_1; first | rwa [add_block] at this | exact this) GW194.out)) | (dsimp only; exact Nat.ne_of_lt (Nat.lt_of_lt_of_le (by have := World.block_lt_of_cell? _ _ hw190_1; first | rwa [add_block] at this | exact this) GW194.out))) _).trans (((cell_far (p := ⟨gb194, _, none⟩) (by first | exact Nat.ne_of_lt (Nat.lt_of_lt_of_le (by have := World.block_lt_of_cell? _ _ hw190_1; first | rwa [add_block] at this | exact this) GW194.out) | (rw [add_block]; exact Nat.ne_of_lt (Nat.lt_of_lt_of_le (by have := World.block_lt_of_cell? _ _ hw190_1; first | rwa [add_block] at this | exact this) GW194.out)) | (show (Addr.add _ _).block ≠ _; rw [add_block]; exact Nat.ne_of_lt (Nat.lt_of_lt_of_le (by have := World.block_lt_of_cell? _ _ hw190_1; first | rwa [add_block] at this | exact this) GW194.out)) | (dsimp only; exact Nat.ne_of_lt (Nat.lt_of_lt_of_le (by have := World.block_lt_of_cell? _ _ hw190_1; first | rwa [add_block] at this | exact this) GW194.out))) _).trans (hHeld.2.1)))))), ((cell_far (p := ⟨gb194, _, none⟩) (by first | exact Nat.ne_of_lt (Nat.lt_of_lt_of_le (by have := World.block_lt_of_cell? _ _ hw190_2; first | rwa [add_block] at this | exact this) GW194.out) | (rw [add_block]; exact Nat.ne_of_lt (Nat.lt_of_lt_of_le (by have := World.block_lt_of_cell? _ _ hw190_2; first | rwa [add_block] at this | exact this) GW194.out)) | (show (Addr.add _ _).block ≠ _; rw [add_block]; exact Nat.ne_of_lt (Nat.lt_of_lt_of_le (by have := World.block_lt_of_cell? _ _ hw190_2; first | rwa [add_block] at this | exact this) GW194.out)) | (dsimp only; exact Nat.ne_of_lt (Nat.lt_of_lt_of_le (by have := World.block_lt_of_cell? _ _ hw190_2; first | rwa [add_block] at this | exact this) GW194.out))) _).trans (((cell_far (p := ⟨gb194, _, none⟩) (by first | exact Nat.ne_of_lt (Nat.lt_of_lt_of_le (by have := World.block_lt_of_cell? _ _ hw190_2; first | rwa [add_block] at this | exact this) GW194.out) | (rw [add_block]; exact Nat.ne_of_lt (Nat.lt_of_lt_of_le (by have := World.block_lt_of_cell? _ _ hw190_2; first | rwa [add_block] at this | exact this) GW194.out)) | (show (Addr.add _ _).block ≠ _; rw [add_block]; exact Nat.ne_of_lt (Nat.lt_of_lt_of_le (by have := World.block_lt_of_cell? _ _ hw190_2; first | rwa [add_block] at this | exact this) GW194.out)) | (dsimp only; exact Nat.ne_of_lt (Nat.lt_of_lt_of_le (by have := World.block_lt_of_cell? _ _ hw190_2; first | rwa [add_block] at this | exact this) GW194.out))) _).trans (((cell_far (p := ⟨gb194, _, none⟩) (by first | exact Nat.ne_of_lt (Nat.lt_of_lt_of_le (by have := World.block_lt_of_cell? _ _ hw190_2; first | rwa [add_block] at this | exact this) GW194.out) | (rw [add_block]; exact Nat.ne_of_lt (Nat.lt_of_lt_of_le (by have := World.block_lt_of_cell? _ _ hw190_2; first | rwa [add_block] at this | exact this) GW194.out)) | (show (Addr.add _ _).block ≠ _; rw [add_block]; exact Nat.ne_of_lt (Nat.lt_of_lt_of_le (by have := World.block_lt_of_cell? _ _ hw190_2; first | rwa [add_block] at this | exact this) GW194.out)) | (dsimp only; exact Nat.ne_of_lt (Nat.lt_of_lt_of_le (by have := World.block_lt_of_cell? _ _ hw190_2; first | rwa [add_block] at this | exact this) GW194.out))) _).trans (hHeld.2.2.1)))))), ((cell_far (p := ⟨gb194, _, none⟩) (by first | exact Nat.ne_of_lt (Nat.lt_of_lt_of_le (by have := World.block_lt_of_cell? _ _ hw191_0; first | rwa [add_block] at this | exact this) GW194.out) | (rw [add_block]; exact Nat.ne_of_lt (Nat.lt_of_lt_of_le (by have := World.block_lt_of_cell? _ _ hw191_0; first | rwa [add_block] at this | exact this) GW194.out)) | (show (Addr.add _ _).block ≠ _; rw [add_block]; exact Nat.ne_of_lt (Nat.lt_of_lt_of_le (by have := World.block_lt_of_cell? _ _ hw191_0; first | rwa [add_block] at this | exact this) GW194.out)) | (dsimp only; exact Nat.ne_of_lt (Nat.lt_of_lt_of_le (by have := World.block_lt_of_cell? _ _ hw191_0; first | rwa [add_block] at this | exact this) GW194.out))) _).trans (((cell_far (p := ⟨gb194, _, none⟩) (by first | exact Nat.ne_of_lt (Nat.lt_of_lt_of_le (by have := World.block_lt_of_cell? _ _ hw191_0; first | rwa [add_block] at this | exact this) GW194.out) | (rw [add_block]; exact Nat.ne_of_lt (Nat.lt_of_lt_of_le (by have := World.block_lt_of_cell? _ _ hw191_0; first | rwa [add_block] at this | exact this) GW194.out)) | (show (Addr.add _ _).block ≠ _; rw [add_block]; exact Nat.ne_of_lt (Nat.lt_of_lt_of_le (by have := World.block_lt_of_cell? _ _ hw191_0; first | rwa [add_block] at this | exact this) GW194.out)) | (dsimp only; exact Nat.ne_of_lt (Nat.lt_of_lt_of_le (by have := World.block_lt_of_cell? _ _ hw191_0; first | rwa [add_block] at this | exact this) GW194.out))) _).trans (((cell_far (p := ⟨gb194, _, none⟩) (by first | exact Nat.ne_of_lt (Nat.lt_of_lt_of_le (by have := World.block_lt_of_cell? _ _ hw191_0; first | rwa [add_block] at this | exact this) GW194.out) | (rw [add_block]; exact Nat.ne_of_lt (Nat.lt_of_lt_of_le (by have := World.block_lt_of_cell? _ _ hw191_0; first | rwa [add_block] at this | exact this) GW194.out)) | (show (Addr.add _ _).block ≠ _; rw [add_block]; exact Nat.ne_of_lt (Nat.lt_of_lt_of_le (by have := World.block_lt_of_cell? _ _ hw191_0; first | rwa [add_block] at this | exact this) GW194.out)) | (dsimp only; exact Nat.ne_of_lt (Nat.lt_of_lt_of_le (by have := World.block_lt_of_cell? _ _ hw191_0; first | rwa [add_block] at this | exact this) GW194.out))) _).trans (hHeld.2.2.2.1)))))), ((cell_far (p := ⟨gb194, _, none⟩) (by first | exact Nat.ne_of_lt (Nat.lt_of_lt_of_le (by have := World.block_lt_of_cell? _ _ hw191_1; first | rwa [add_block] at this | exact this) GW194.out) | (rw [add_block]; exact Nat.ne_of_lt (Nat.lt_of_lt_of_le (by have := World.block_lt_of_cell? _ _ hw191_1; first | rwa [add_block] at this | exact this) GW194.out)) | (show (Addr.add _ _).block ≠ _; rw [add_block]; exact Nat.ne_of_lt (Nat.lt_of_lt_of_le (by have := World.block_lt_of_cell? _ _ hw191_1; first | rwa [add_block] at this | exact this) GW194.out)) | (dsimp only; exact Nat.ne_of_lt (Nat.lt_of_lt_of_le (by have := World.block_lt_of_cell? _ _ hw191_1; first | rwa [add_block] at this | exact this) GW194.out))) _).trans (((cell_far (p := ⟨gb194, _, none⟩) (by first | exact Nat.ne_of_lt (Nat.lt_of_lt_of_le (by have := World.block_lt_of_cell? _ _ hw191_1; first | rwa [add_block] at this | exact this) GW194.out) | (rw [add_block]; exact Nat.ne_of_lt (Nat.lt_of_lt_of_le (by have := World.block_lt_of_cell? _ _ hw191_1; first | rwa [add_block] at this | exact this) GW194.out)) | (show (Addr.add _ _).block ≠ _; rw [add_block]; exact Nat.ne_of_lt (Nat.lt_of_lt_of_le (by have := World.block_lt_of_cell? _ _ hw191_1; first | rwa [add_block] at this | exact this) GW194.out)) | (dsimp only; exact Nat.ne_of_lt (Nat.lt_of_lt_of_le (by have := World.block_lt_of_cell? _ _ hw191_1; first | rwa [add_block] at this | exact this) GW194.out))) _).trans (((cell_far (p := ⟨gb194, _, none⟩) (by first | exact Nat.ne_of_lt (Nat.lt_of_lt_of_le (by have := World.block_lt_of_cell? _ _ hw191_1; first | rwa [add_block] at this | exact this) GW194.out) | (rw [add_block]; exact Nat.ne_of_lt (Nat.lt_of_lt_of_le (by have := World.block_lt_of_cell? _ _ hw191_1; first | rwa [add_block] at this | exact this) GW194.out)) | (show (Addr.add _ _).block ≠ _; rw [add_block]; exact Nat.ne_of_lt (Nat.lt_of_lt_of_le (by have := World.block_lt_of_cell? _ _ hw191_1; first | rwa [add_block] at this | exact this) GW194.out)) | (dsimp only; exact Nat.ne_of_lt (Nat.lt_of_lt_of_le (by have := World.block_lt_of_cell? _ _ hw191_1; first | rwa [add_block] at this | exact this) GW194.out))) _).trans (hHeld.2.2.2.2.1)))))), ((cell_far (p := ⟨gb194, _, none⟩) (by first | exact Nat.ne_of_lt (Nat.lt_of_lt_of_le (by have := World.block_lt_of_cell? _ _ hw191_2; first | rwa [add_block] at this | exact this) GW194.out) | (rw [add_block]; exact Nat.ne_of_lt (Nat.lt_of_lt_of_le (by have := World.block_lt_of_cell? _ _ hw191_2; first | rwa [add_block] at this | exact this) GW194.out)) | (show (Addr.add _ _).block ≠ _; rw [add_block]; exact Nat.ne_of_lt (Nat.lt_of_lt_of_le (by have := World.block_lt_of_cell? _ _ hw191_2; first | rwa [add_block] at this | exact this) GW194.out)) | (dsimp only; exact Nat.ne_of_lt (Nat.lt_of_lt_of_le (by have := World.block_lt_of_cell? _ _ hw191_2; first | rwa [add_block] at this | exact this) GW194.out))) _).trans (((cell_far (p := ⟨gb194, _, none⟩) (by first | exact Nat.ne_of_lt (Nat.lt_of_lt_of_le (by have := World.block_lt_of_cell? _ _ hw191_2; first | rwa [add_block] at this | exact this) GW194.out) | (rw [add_block]; exact Nat.ne_of_lt (Nat.lt_of_lt_of_le (by have := World.block_lt_of_cell? _ _ hw191_2; first | rwa [add_block] at this | exact this) GW194.out)) | (show (Addr.add _ _).block ≠ _; rw [add_block]; exact Nat.ne_of_lt (Nat.lt_of_lt_of_le (by have := World.block_lt_of_cell? _ _ hw191_2; first | rwa [add_block] at this | exact this) GW194.out)) | (dsimp only; exact Nat.ne_of_lt (Nat.lt_of_lt_of_le (by have := World.block_lt_of_cell? _ _ hw191_2; first | rwa [add_block] at this | exact this) GW194.out))) _).trans (((cell_far (p := ⟨gb194, _, none⟩) (by first | exact Nat.ne_of_lt (Nat.lt_of_lt_of_le (by have := World.block_lt_of_cell? _ _ hw191_2; first | rwa [add_block] at this | exact this) GW194.out) | (rw [add_block]; exact Nat.ne_of_lt (Nat.lt_of_lt_of_le (by have := World.block_lt_of_cell? _ _ hw191_2; first | rwa [add_block] at this | exact this) GW194.out)) | (show (Addr.add _ _).block ≠ _; rw [add_block]; exact Nat.ne_of_lt (Nat.lt_of_lt_of_le (by have := World.block_lt_of_cell? _ _ hw191_2; first | rwa [add_block] at this | exact this) GW194.out)) | (dsimp only; exact Nat.ne_of_lt (Nat.lt_of_lt_of_le (by have := World.block_lt_of_cell? _ _ hw191_2; first | rwa [add_block] at this | exact this) GW194.out))) _).trans (hHeld.2.2.2.2.2.1)))))), ((cell_far (p := ⟨gb194, _, none⟩) (by first | exact Nat.ne_of_lt (Nat.lt_of_lt_of_le (by have := World.block_lt_of_cell? _ _ hw192_0; first | rwa [add_block] at this | exact this) GW194.out) | (rw [add_block]; exact Nat.ne_of_lt (Nat.lt_of_lt_of_le (by have := World.block_lt_of_cell? _ _ hw192_0; first | rwa [add_block] at this | exact this) GW194.out)) | (show (Addr.add _ _).block ≠ _; rw [add_block]; exact Nat.ne_of_lt (Nat.lt_of_lt_of_le (by have := World.block_lt_of_cell? _ _ hw192_0; first | rwa [add_block] at this | exact this) GW194.out)) | (dsimp only; exact Nat.ne_of_lt (Nat.lt_of_lt_of_le (by have := World.block_lt_of_cell? _ _ hw192_0; first | rwa [add_block] at this | exact this) GW194.out))) _).trans (((cell_far (p := ⟨gb194, _, none⟩) (by first | exact Nat.ne_of_lt (Nat.lt_of_lt_of_le (by have := World.block_lt_of_cell? _ _ hw192_0; first | rwa [add_block] at this | exact this) GW194.out) | (rw [add_block]; exact Nat.ne_of_lt (Nat.lt_of_lt_of_le (by have := World.block_lt_of_cell? _ _ hw192_0; first | rwa [add_block] at this | exact this) GW194.out)) | (show (Addr.add _ _).block ≠ _; rw [add_block]; exact Nat.ne_of_lt (Nat.lt_of_lt_of_le (by have := World.block_lt_of_cell? _ _ hw192_0; first | rwa [add_block] at this | exact this) GW194.out)) | (dsimp only; exact Nat.ne_of_lt (Nat.lt_of_lt_of_le (by have := World.block_lt_of_cell? _ _ hw192_0; first | rwa [add_block] at this | exact this) GW194.out))) _).trans (((cell_far (p := ⟨gb194, _, none⟩) (by first | exact Nat.ne_of_lt (Nat.lt_of_lt_of_le (by have := World.block_lt_of_cell? _ _ hw192_0; first | rwa [add_block] at this | exact this) GW194.out) | (rw [add_block]; exact Nat.ne_of_lt (Nat.lt_of_lt_of_le (by have := World.block_lt_of_cell? _ _ hw192_0; first | rwa [add_block] at this | exact this) GW194.out)) | (show (Addr.add _ _).block ≠ _; rw [add_block]; exact Nat.ne_of_lt (Nat.lt_of_lt_of_le (by have := World.block_lt_of_cell? _ _ hw192_0; first | rwa [add_block] at this | exact this) GW194.out)) | (dsimp only; exact Nat.ne_of_lt (Nat.lt_of_lt_of_le (by have := World.block_lt_of_cell? _ _ hw192_0; first | rwa [add_block] at this | exact this) GW194.out))) _).trans (hHeld.2.2.2.2.2.2.1)))))), ((cell_far (p := ⟨gb194, _, none⟩) (by first | exact Nat.ne_of_lt (Nat.lt_of_lt_of_le (by have := World.block_lt_of_cell? _ _ hw192_1; first | rwa [add_block] at this | exact this) GW194.out) | (rw [add_block]; exact Nat.ne_of_lt (Nat.lt_of_lt_of_le (by have := World.block_lt_of_cell? _ _ hw192_1; first | rwa [add_block] at this | exact this) GW194.out)) | (show (Addr.add _ _).block ≠ _; rw [add_block]; exact Nat.ne_of_lt (Nat.lt_of_lt_of_le (by have := World.block_lt_of_cell? _ _ hw192_1; first | rwa [add_block] at this | exact this) GW194.out)) | (dsimp only; exact Nat.ne_of_lt (Nat.lt_of_lt_of_le (by have := World.block_lt_of_cell? _ _ hw192_1; first | rwa [add_block] at this | exact this) GW194.out))) _).trans (((cell_far (p := ⟨gb194, _, none⟩) (by first | exact Nat.ne_of_lt (Nat.lt_of_lt_of_le (by have := World.block_lt_of_cell? _ _ hw192_1; first | rwa [add_block] at this | exact this) GW194.out) | (rw [add_block]; exact Nat.ne_of_lt (Nat.lt_of_lt_of_le (by have := World.block_lt_of_cell? _ _ hw192_1; first | rwa [add_block] at this | exact this) GW194.out)) | (show (Addr.add _ _).block ≠ _; rw [add_block]; exact Nat.ne_of_lt (Nat.lt_of_lt_of_le (by have := World.block_lt_of_cell? _ _ hw192_1; first | rwa [add_block] at this | exact this) GW194.out)) | (dsimp only; exact Nat.ne_of_lt (Nat.lt_of_lt_of_le (by have := World.block_lt_of_cell? _ _ hw192_1; first | rwa [add_block] at this | exact this) GW194.out))) _).trans (((cell_far (p := ⟨gb194, _, none⟩) (by first | exact Nat.ne_of_lt (Nat.lt_of_lt_of_le (by have := World.block_lt_of_cell? _ _ hw192_1; first | rwa [add_block] at this | exact this) GW194.out) | (rw [add_block]; exact Nat.ne_of_lt (Nat.lt_of_lt_of_le (by have := World.block_lt_of_cell? _ _ hw192_1; first | rwa [add_block] at this | exact this) GW194.out)) | (show (Addr.add _ _).block ≠ _; rw [add_block]; exact Nat.ne_of_lt (Nat.lt_of_lt_of_le (by have := World.block_lt_of_cell? _ _ hw192_1; first | rwa [add_block] at this | exact this) GW194.out)) | (dsimp only; exact Nat.ne_of_lt (Nat.lt_of_lt_of_le (by have := World.block_lt_of_cell? _ _ hw192_1; first | rwa [add_block] at this | exact this) GW194.out))) _).trans (hHeld.2.2.2.2.2.2.2.1)))))), ((cell_far (p := ⟨gb194, _, none⟩) (by first | exact Nat.ne_of_lt (Nat.lt_of_lt_of_le (by have := World.block_lt_of_cell? _ _ hw192_2; first | rwa [add_block] at this | exact this) GW194.out) | (rw [add_block]; exact Nat.ne_of_lt (Nat.lt_of_lt_of_le (by have := World.block_lt_of_cell? _ _ hw192_2; first | rwa [add_block] at this | exact this) GW194.out)) | (show (Addr.add _ _).block ≠ _; rw [add_block]; exact Nat.ne_of_lt (Nat.lt_of_lt_of_le (by have := World.block_lt_of_cell? _ _ hw192_2; first | rwa [add_block] at this | exact this) GW194.out)) | (dsimp only; exact Nat.ne_of_lt (Nat.lt_of_lt_of_le (by have := World.block_lt_of_cell? _ _ hw192_2; first | rwa [add_block] at this | exact this) GW194.out))) _).trans (((cell_far (p := ⟨gb194, _, none⟩) (by first | exact Nat.ne_of_lt (Nat.lt_of_lt_of_le (by have := World.block_lt_of_cell? _ _ hw192_2; first | rwa [add_block] at this | exact this) GW194.out) | (rw [add_block]; exact Nat.ne_of_lt (Nat.lt_of_lt_of_le (by have := World.block_lt_of_cell? _ _ hw192_2; first | rwa [add_block] at this | exact this) GW194.out)) | (show (Addr.add _ _).block ≠ _; rw [add_block]; exact Nat.ne_of_lt (Nat.lt_of_lt_of_le (by have := World.block_lt_of_cell? _ _ hw192_2; first | rwa [add_block] at this | exact this) GW194.out)) | (dsimp only; exact Nat.ne_of_lt (Nat.lt_of_lt_of_le (by have := World.block_lt_of_cell? _ _ hw192_2; first | rwa [add_block] at this | exact this) GW194.out))) _).trans (((cell_far (p := ⟨gb194, _, none⟩) (by first | exact Nat.ne_of_lt (Nat.lt_of_lt_of_le (by have := World.block_lt_of_cell? _ _ hw192_2; first | rwa [add_block] at this | exact this) GW194.out) | (rw [add_block]; exact Nat.ne_of_lt (Nat.lt_of_lt_of_le (by have := World.block_lt_of_cell? _ _ hw192_2; first | rwa [add_block] at this | exact this) GW194.out)) | (show (Addr.add _ _).block ≠ _; rw [add_block]; exact Nat.ne_of_lt (Nat.lt_of_lt_of_le (by have := World.block_lt_of_cell? _ _ hw192_2; first | rwa [add_block] at this | exact this) GW194.out)) | (dsimp only; exact Nat.ne_of_lt (Nat.lt_of_lt_of_le (by have := World.block_lt_of_cell? _ _ hw192_2; first | rwa [add_block] at this | exact this) GW194.out))) _).trans (hHeld.2.2.2.2.2.2.2.2.1)))))), ((cell_far (p := ⟨gb194, _, none⟩) (by first | exact Nat.ne_of_lt (Nat.lt_of_lt_of_le (by have := World.block_lt_of_cell? _ _ hw193_0; first | rwa [add_block] at this | exact this) GW194.out) | (rw [add_block]; exact Nat.ne_of_lt (Nat.lt_of_lt_of_le (by have := World.block_lt_of_cell? _ _ hw193_0; first | rwa [add_block] at this | exact this) GW194.out)) | (show (Addr.add _ _).block ≠ _; rw [add_block]; exact Nat.ne_of_lt (Nat.lt_of_lt_of_le (by have := World.block_lt_of_cell? _ _ hw193_0; first | rwa [add_block] at this | exact this) GW194.out)) | (dsimp only; exact Nat.ne_of_lt (Nat.lt_of_lt_of_le (by have := World.block_lt_of_cell? _ _ hw193_0; first | rwa [add_block] at this | exact this) GW194.out))) _).trans (((cell_far (p := ⟨gb194, _, none⟩) (by first | exact Nat.ne_of_lt (Nat.lt_of_lt_of_le (by have := World.block_lt_of_cell? _ _ hw193_0; first | rwa [add_block] at this | exact this) GW194.out) | (rw [add_block]; exact Nat.ne_of_lt (Nat.lt_of_lt_of_le (by have := World.block_lt_of_cell? _ _ hw193_0; first | rwa [add_block] at this | exact this) GW194.out)) | (show (Addr.add _ _).block ≠ _; rw [add_block]; exact Nat.ne_of_lt (Nat.lt_of_lt_of_le (by have := World.block_lt_of_cell? _ _ hw193_0; first | rwa [add_block] at this | exact this) GW194.out)) | (dsimp only; exact Nat.ne_of_lt (Nat.lt_of_lt_of_le (by have := World.block_lt_of_cell? _ _ hw193_0; first | rwa [add_block] at this | exact this) GW194.out))) _).trans (((cell_far (p := ⟨gb194, _, none⟩) (by first | exact Nat.ne_of_lt (Nat.lt_of_lt_of_le (by have := World.block_lt_of_cell? _ _ hw193_0; first | rwa [add_block] at this | exact this) GW194.out) | (rw [add_block]; exact Nat.ne_of_lt (Nat.lt_of_lt_of_le (by have := World.block_lt_of_cell? _ _ hw193_0; first | rwa [add_block] at this | exact this) GW194.out)) | (show (Addr.add _ _).block ≠ _; rw [add_block]; exact Nat.ne_of_lt (Nat.lt_of_lt_of_le (by have := World.block_lt_of_cell? _ _ hw193_0; first | rwa [add_block] at this | exact this) GW194.out)) | (dsimp only; exact Nat.ne_of_lt (Nat.lt_of_lt_of_le (by have := World.block_lt_of_cell? _ _ hw193_0; first | rwa [add_block] at this | exact this) GW194.out))) _).trans (hHeld.2.2.2.2.2.2.2.2.2.1)))))), ((cell_far (p := ⟨gb194, _, none⟩) (by first | exact Nat.ne_of_lt (Nat.lt_of_lt_of_le (by have := World.block_lt_of_cell? _ _ hw193_1; first | rwa [add_block] at this | exact this) GW194.out) | (rw [add_block]; exact Nat.ne_of_lt (Nat.lt_of_lt_of_le (by have := World.block_lt_of_cell? _ _ hw193_1; first | rwa [add_block] at this | exact this) GW194.out)) | (show (Addr.add _ _).block ≠ _; rw [add_block]; exact Nat.ne_of_lt (Nat.lt_of_lt_of_le (by have := World.block_lt_of_cell? _ _ hw193_1; first | rwa [add_block] at this | exact this) GW194.out)) | (dsimp only; exact Nat.ne_of_lt (Nat.lt_of_lt_of_le (by have := World.block_lt_of_cell? _ _ hw193_1; first | rwa [add_block] at this | exact this) GW194.out))) _).trans (((cell_far (p := ⟨gb194, _, none⟩) (by first | exact Nat.ne_of_lt (Nat.lt_of_lt_of_le (by have := World.block_lt_of_cell? _ _ hw193_1; first | rwa [add_block] at this | exact this) GW194.out) | (rw [add_block]; exact Nat.ne_of_lt (Nat.lt_of_lt_of_le (by have := World.block_lt_of_cell? _ _ hw193_1; first | rwa [add_block] at this | exact this) GW194.out)) | (show (Addr.add _ _).block ≠ _; rw [add_block]; exact Nat.ne_of_lt (Nat.lt_of_lt_of_le (by have := World.block_lt_of_cell? _ _ hw193_1; first | rwa [add_block] at this | exact this) GW194.out)) | (dsimp only; exact Nat.ne_of_lt (Nat.lt_of_lt_of_le (by have := World.block_lt_of_cell? _ _ hw193_1; first | rwa [add_block] at this | exact this) GW194.out))) _).trans (((cell_far (p := ⟨gb194, _, none⟩) (by first | exact Nat.ne_of_lt (Nat.lt_of_lt_of_le (by have := World.block_lt_of_cell? _ _ hw193_1; first | rwa [add_block] at this | exact this) GW194.out) | (rw [add_block]; exact Nat.ne_of_lt (Nat.lt_of_lt_of_le (by have := World.block_lt_of_cell? _ _ hw193_1; first | rwa [add_block] at this | exact this) GW194.out)) | (show (Addr.add _ _).block ≠ _; rw [add_block]; exact Nat.ne_of_lt (Nat.lt_of_lt_of_le (by have := World.block_lt_of_cell? _ _ hw193_1; first | rwa [add_block] at this | exact this) GW194.out)) | (dsimp only; exact Nat.ne_of_lt (Nat.lt_of_lt_of_le (by have := World.block_lt_of_cell? _ _ hw193_1; first | rwa [add_block] at this | exact this) GW194.out))) _).trans (hHeld.2.2.2.2.2.2.2.2.2.2.1)))))), ((cell_far (p := ⟨gb194, _, none⟩) (by first | exact Nat.ne_of_lt (Nat.lt_of_lt_of_le (by have := World.block_lt_of_cell? _ _ hw193_2; first | rwa [add_block] at this | exact this) GW194.out) | (rw [add_block]; exact Nat.ne_of_lt (Nat.lt_of_lt_of_le (by have := World.block_lt_of_cell? _ _ hw193_2; first | rwa [add_block] at this | exact this) GW194.out)) | (show (Addr.add _ _).block ≠ _; rw [add_block]; exact Nat.ne_of_lt (Nat.lt_of_lt_of_le (by have := World.block_lt_of_cell? _ _ hw193_2; first | rwa [add_block] at this | exact this) GW194.out)) | (dsimp only; exact Nat.ne_of_lt (Nat.lt_of_lt_of_le (by have := World.block_lt_of_cell? _ _ hw193_2; first | rwa [add_block] at this | exact this) GW194.out))) _).trans (((cell_far (p := ⟨gb194, _, none⟩) (by first | exact Nat.ne_of_lt (Nat.lt_of_lt_of_le (by have := World.block_lt_of_cell? _ _ hw193_2; first | rwa [add_block] at this | exact this) GW194.out) | (rw [add_block]; exact Nat.ne_of_lt (Nat.lt_of_lt_of_le (by have := World.block_lt_of_cell? _ _ hw193_2; first | rwa [add_block] at this | exact this) GW194.out)) | (show (Addr.add _ _).block ≠ _; rw [add_block]; exact Nat.ne_of_lt (Nat.lt_of_lt_of_le (by have := World.block_lt_of_cell? _ _ hw193_2; first | rwa [add_block] at this | exact this) GW194.out)) | (dsimp only; exact Nat.ne_of_lt (Nat.lt_of_lt_of_le (by have := World.block_lt_of_cell? _ _ hw193_2; first | rwa [add_block] at this | exact this) GW194.out))) _).trans (((cell_far (p := ⟨gb194, _, none⟩) (by first | exact Nat.ne_of_lt (Nat.lt_of_lt_of_le (by have := World.block_lt_of_cell? _ _ hw193_2; first | rwa [add_block] at this | exact this) GW194.out) | (rw [add_block]; exact Nat.ne_of_lt (Nat.lt_of_lt_of_le (by have := World.block_lt_of_cell? _ _ hw193_2; first | rwa [add_block] at this | exact this) GW194.out)) | (show (Addr.add _ _).block ≠ _; rw [add_block]; exact Nat.ne_of_lt (Nat.lt_of_lt_of_le (by have := World.block_lt_of_cell? _ _ hw193_2; first | rwa [add_block] at this | exact this) GW194.out)) | (dsimp only; exact Nat.ne_of_lt (Nat.lt_of_lt_of_le (by have := World.block_lt_of_cell? _ _ hw193_2; first | rwa [add_block] at this | exact this) GW194.out))) _).trans (hHeld.2.2.2.2.2.2.2.2.2.2.2))))))⟩ (fun hHeld => ?_)
                    clear hK K
                    refine done_ (done_of HT_.out (by kernel_rfl)) ?_
                    obtain ⟨Ao15, co15, eo15⟩ := Kd.R_slice HO_4.out
                    subst eo15
                    obtain ⟨Ao16, co16, eo16⟩ := Kd.R_slice HO_5.out
                    subst eo16
                    try go_wp2
                    have n0_ : Aside0 (Kd.R k36 36 (((w11.setCell ⟨gb194, 0, none⟩ (.string (((rd_T52 l0 x6_1).f0).extract 0 ((ji5) : Int).toNat))).setCell ⟨gb194, 1, none⟩ (.int .i64 ((rd_T52 l0 x6_1).f1))).setCell ⟨gb194, 2, none⟩ (.bool ((rd_T52 l0 x6_1).f2))) w.heap.size (fun _ => True) (.slice Ao15 x4_1.length co15) x4_1) := ⟨by (with_reducible repeat (first | apply Kd.R_alloc | apply Kd.R_drewN | apply Kd.R_drew)); exact Kd.R_mono (Kd.R_far (p := ⟨gb194, 2, none⟩) (Kd.R_far (p := ⟨gb194, 1, none⟩) (Kd.R_far (p := ⟨gb194, 0, none⟩) (Kd.R_types HO_4.out BK194.out (by decide)) (fun _ hk => hk.2) (.string (((rd_T52 l0 x6_1).f0).extract 0 ((ji5) : Int).toNat))) (fun _ hk => hk.2) (.int .i64 ((rd_T52 l0 x6_1).f1))) (fun _ hk => hk.2) (.bool ((rd_T52 l0 x6_1).f2))) (fun _ hk => trivial)⟩
                    have n1_ : Aside0 (Kd.R k40 40 (((w11.setCell ⟨gb194, 0, none⟩ (.string (((rd_T52 l0 x6_1).f0).extract 0 ((ji5) : Int).toNat))).setCell ⟨gb194, 1, none⟩ (.int .i64 ((rd_T52 l0 x6_1).f1))).setCell ⟨gb194, 2, none⟩ (.bool ((rd_T52 l0 x6_1).f2))) w.heap.size (fun _ => True) (.slice Ao16 x5_1.length co16) x5_1) := ⟨by (with_reducible repeat (first | apply Kd.R_alloc | apply Kd.R_drewN | apply Kd.R_drew)); exact Kd.R_mono (Kd.R_far (p := ⟨gb194, 2, none⟩) (Kd.R_far (p := ⟨gb194, 1, none⟩) (Kd.R_far (p := ⟨gb194, 0, none⟩) (Kd.R_types HO_5.out BK194.out (by decide)) (fun _ hk => hk.2) (.string (((rd_T52 l0 x6_1).f0).extract 0 ((ji5) : Int).toNat))) (fun _ hk => hk.2) (.int .i64 ((rd_T52 l0 x6_1).f1))) (fun _ hk => hk.2) (.bool ((rd_T52 l0 x6_1).f2))) (fun _ hk => trivial)⟩
                    have n2_ : Aside0 ((((w11.setCell ⟨gb194, 0, none⟩ (.string (((rd_T52 l0 x6_1).f0).extract 0 ((ji5) : Int).toNat))).setCell ⟨gb194, 1, none⟩ (.int .i64 ((rd_T52 l0 x6_1).f1))).setCell ⟨gb194, 2, none⟩ (.bool ((rd_T52 l0 x6_1).f2))).heap[gb194]? = some (.cells #[.string (((rd_T52 l0 x6_1).f0).extract 0 ((ji5) : Int).toNat), .int .i64 ((rd_T52 l0 x6_1).f1), .bool ((rd_T52 l0 x6_1).f2)] 52 (0, 0))) := ⟨by (with_reducible repeat (first | refine blk_drewN ?_ _ | refine blk_drew ?_ | refine blk_alloc ?_ _)); refine blk_put (cs := #[.string (((rd_T52 l0 x6_1).f0).extract 0 ((ji5) : Int).toNat), .int .i64 ((rd_T52 l0 x6_1).f1), .bool false]) ?_ 2 _ rfl; (with_reducible repeat (first | refine blk_drewN ?_ _ | refine blk_drew ?_ | refine blk_alloc ?_ _)); refine blk_put (cs := #[.string (((rd_T52 l0 x6_1).f0).extract 0 ((ji5) : Int).toNat), .int .i64 0, .bool false]) ?_ 1 _ rfl; (with_reducible repeat (first | refine blk_drewN ?_ _ | refine blk_drew ?_ | refine blk_alloc ?_ _)); refine blk_put (cs := #[.string (⟨#[]⟩ : ByteArray), .int .i64 0, .bool false]) ?_ 0 _ rfl; (with_reducible repeat (first | refine blk_drewN ?_ _ | refine blk_drew ?_ | refine blk_alloc ?_ _)); exact BK194.out⟩
                    have n3_ : Aside0 (Below w.heap.size w (((w11.setCell ⟨gb194, 0, none⟩ (.string (((rd_T52 l0 x6_1).f0).extract 0 ((ji5) : Int).toNat))).setCell ⟨gb194, 1, none⟩ (.int .i64 ((rd_T52 l0 x6_1).f1))).setCell ⟨gb194, 2, none⟩ (.bool ((rd_T52 l0 x6_1).f2)))) := ⟨by repeat (first | (with_reducible first | exact HB.out | apply below_alloc | apply pw_below_drewN | apply below_drew1 | refine below_set ?_ GE194.out) | exact HB.out)⟩
                    (try clear HO_4)
                    (try clear HO_5)
                    (try clear BK194)
                    (try clear HB)
                    generalize (((w11.setCell ⟨gb194, 0, none⟩ (.string (((rd_T52 l0 x6_1).f0).extract 0 ((ji5) : Int).toNat))).setCell ⟨gb194, 1, none⟩ (.int .i64 ((rd_T52 l0 x6_1).f1))).setCell ⟨gb194, 2, none⟩ (.bool ((rd_T52 l0 x6_1).f2))) = w17 at n0_ n1_ n2_ n3_ ⊢
                    have HO_4 := n0_
                    have HO_5 := n1_
                    have BK194 := n2_
                    have HB := n3_
                    clear n0_ n1_ n2_ n3_
                    have n0_ := Aside0.mk (Kd.R_drew HO_4.out)
                    have n1_ := Aside0.mk (Kd.R_drew HO_5.out)
                    have n2_ := Aside0.mk (blk_drew BK194.out)
                    have n3_ := Aside0.mk (below_drew1 HB.out)
                    clear HO_4
                    clear HO_5
                    clear BK194
                    clear HB
                    have HO_4 := n0_
                    have HO_5 := n1_
                    have BK194 := n2_
                    have HB := n3_
                    clear n0_ n1_ n2_ n3_
                    refine start_ (n := 10) (S := fun w' => w'.cell? ⟨gb194, 0, none⟩ = some (.string (((rd_T52 l0 x6_1).f0).extract 0 ((ji5) : Int).toNat)) ∧ w'.cell? ⟨gb194, 1, none⟩ = some (.int .i64 ((rd_T52 l0 x6_1).f1)) ∧ w'.cell? ⟨gb194, 2, none⟩ = some (.bool ((rd_T52 l0 x6_1).f2))) (ds := []) #[false, false, false, false, false, false, false, false, false, false] (by kernel_rfl) rfl rfl ⟨(blk_cell BK194.out 0).trans rfl, (blk_cell BK194.out 1).trans rfl, (blk_cell BK194.out 2).trans rfl⟩ (fun hHeld => ?_); refine with_tabW concordancelaw01_both.tab7 concordancelaw01_both.bits7 (fun HT_ HW_ => ?_)
                    generalize w17.drew = w18 at HO_4 HO_5 BK194 HB hHeld ⊢
                    refine pure_ (i := 0) (N := some 42) (v := ?_) (a' := ?_) #[true, false, false, false, false, false, false, false, false, false] rfl rfl (any_of HT_.out (by kernel_rfl)) (fun _ _ _ h => h) (Or.inl ⟨by rfl, ?_⟩) ?_ ?_
                    rotate_left
                    · intro w'
                      go_simp
                      with_reducible rfl
                    rotate_left
                    · simp only [Act.put, List.setIfInBounds_toArray, List.set_cons_zero, List.set_cons_succ, i64_w, i32_w]
                      rfl
                    refine pure_ (i := 4) (N := some 46) (v := ?_) (a' := ?_) #[true, false, false, false, true, false, false, false, false, false] rfl rfl (any_of HT_.out (by kernel_rfl)) (fun _ _ _ h => h) (Or.inl ⟨by rfl, ?_⟩) ?_ ?_
                    rotate_left
                    · intro w'
                      go_simp
                      with_reducible rfl
                    rotate_left
                    · simp only [Act.put, List.setIfInBounds_toArray, List.set_cons_zero, List.set_cons_succ, i64_w, i32_w]
                      rfl
                    refine take_ (i := 1) (N := some 43) (v := ?_) (a' := ?_) #[true, true, false, false, true, false, false, false, false, false] rfl rfl (take_ofW HT_.out HW_.out (by kernel_rfl)) (fun _ _ _ h => h) (Or.inl ⟨by rfl, ?_⟩) hHeld ?_ ?_
                    rotate_left
                    · rintro w' ⟨s0, s1, s2⟩
                      go_simp
                      with_reducible rfl
                    rotate_left
                    · simp only [Act.put, List.setIfInBounds_toArray, List.set_cons_zero, List.set_cons_succ, i64_w, i32_w]
                      rfl
                    refine take_ (i := 5) (N := some 47) (v := ?_) (a' := ?_) #[true, true, false, false, true, true, false, false, false, false] rfl rfl (take_ofW HT_.out HW_.out (by kernel_rfl)) (fun _ _ _ h => h) (Or.inl ⟨by rfl, ?_⟩) hHeld ?_ ?_
                    rotate_left
                    · rintro w' ⟨s0, s1, s2⟩
                      go_simp
                      with_reducible rfl
                    rotate_left
                    · simp only [Act.put, List.setIfInBounds_toArray, List.set_cons_zero, List.set_cons_succ, i64_w, i32_w]
                      rfl
                    refine join_ (σ := Value × Value × Value) 3 #[true, true, true, true, true, true, true, false, false, false] (fun s_ => [(44, s_.1), (45, s_.2.1), (48, s_.2.2)]) (fun s_ w' => (w'.cell? ⟨gb194, 0, none⟩ = some (.string (((rd_T52 l0 x6_1).f0).extract 0 ((ji5) : Int).toNat)) ∧ w'.cell? ⟨gb194, 1, none⟩ = some (.int .i64 ((rd_T52 l0 x6_1).f1)) ∧ w'.cell? ⟨gb194, 2, none⟩ = some (.bool ((rd_T52 l0 x6_1).f2))) ∧ (Kd.R k36 36 w' w.heap.size (fun k_ => some k_ ≠ (s_.2.1 : Value).ownBlock) s_.1 y195) ∧ (Kd.R k36 36 w' w.heap.size (fun k_ => some k_ ≠ (s_.1 : Value).ownBlock) s_.2.1 y198) ∧ (Kd.R k40 40 w' w.heap.size (fun k_ => some k_ ≠ (.slice Ao16 x5_1.length co16 : Value).ownBlock) s_.2.2 y201) ∧ (Kd.R k40 40 w' w.heap.size (fun k_ => some k_ ≠ (s_.2.2 : Value).ownBlock) (.slice Ao16 x5_1.length co16) x5_1) ∧ (w'.heap[gb194]? = some (.cells #[.string (((rd_T52 l0 x6_1).f0).extract 0 ((ji5) : Int).toNat), .int .i64 ((rd_T52 l0 x6_1).f1), .bool ((rd_T52 l0 x6_1).f2)] 52 (0, 0))) ∧ (Below w.heap.size w w')) ?_ ?_
                    rotate_left
                    · intro hCont
                      refine two_ (i := 2) (j := 6) (Ni := some 44) (Nj := some 48) #[true, true, true, false, true, true, false, false, false, false] #[true, true, false, false, true, true, true, false, false, false] rfl rfl rfl rfl (two_of HT_.out (by kernel_rfl)) (by decide) (by decide) (fun K hK => ?_) (fun K hK => ?_)
                      · skip
                        refine Kd.R_lit_step k36 _ 36 ?hg (N := 44) ?hd (xs := ([(⟨((rd_T52 l0 x6_1).f0).extract 0 ((ji5) : Int).toNat, (rd_T52 l0 x6_1).f1, (rd_T52 l0 x6_1).f2⟩ : S36)] : List (S36))) (inner := [.string (((rd_T52 l0 x6_1).f0).extract 0 ((ji5) : Int).toNat), .int .i64 ((rd_T52 l0 x6_1).f1), .bool ((rd_T52 l0 x6_1).f2)]) (ok := fun _ => True) (okp := fun _ => True) ?hr ?hp (fun _ hk => hk) trivial (Below.refl _ _) (Nat.le_refl _) (by simp) ?_; (case hd => rfl); (case hg => rfl); (case hr => first | (go_simp; done) | (go_simp; rfl)); (case hp => exact (Reps.c3 (show Kd.M k36 _ _ _ (⟨((rd_T52 l0 x6_1).f0).extract 0 ((ji5) : Int).toNat, (rd_T52 l0 x6_1).f1, (rd_T52 l0 x6_1).f2⟩ : S36) [.string (((rd_T52 l0 x6_1).f0).extract 0 ((ji5) : Int).toNat), .int .i64 ((rd_T52 l0 x6_1).f1), .bool ((rd_T52 l0 x6_1).f2)] from (k36_mkM _ _ _ (⟨((rd_T52 l0 x6_1).f0).extract 0 ((ji5) : Int).toNat, (rd_T52 l0 x6_1).f1, (rd_T52 l0 x6_1).f2⟩ : S36) )) (Reps.none _ _)))
                        intro v196 w19 ho20 hb hg_ hnew_
                        clear hg_ hnew_
                        (first | rw [← Ny195.out] at ho20 | (simp only [Int.reduceToNat] at ho20; rw [← Ny195.out] at ho20))
                        have n0_ := Aside0.mk (Kd.R_elder' (by (with_reducible repeat (first | apply Kd.R_alloc | apply Kd.R_drewN | apply Kd.R_drew)); exact HO_4.out) (Kd.R_base ho20) hb)
                        have n1_ := Aside0.mk (Kd.R_below (by (with_reducible repeat (first | apply Kd.R_alloc | apply Kd.R_drewN | apply Kd.R_drew)); exact HO_5.out) hb)
                        have n2_ := Aside0.mk (Kd.R_lower (Kd.R_new' ho20 (Kd.R_lt (by (with_reducible repeat (first | apply Kd.R_alloc | apply Kd.R_drewN | apply Kd.R_drew)); exact HO_4.out))) (below_size (by repeat (first | (with_reducible first | exact HB.out | apply below_alloc | apply pw_below_drewN | apply below_drew1 | refine below_set ?_ GE194.out) | exact HB.out))))
                        have n3_ := Aside0.mk (blk_below (g := gb194) (o := .cells #[.string (((rd_T52 l0 x6_1).f0).extract 0 ((ji5) : Int).toNat), .int .i64 ((rd_T52 l0 x6_1).f1), .bool ((rd_T52 l0 x6_1).f2)] 52 (0, 0)) (by (with_reducible repeat (first | refine blk_drewN ?_ _ | refine blk_drew ?_ | refine blk_alloc ?_ _)); exact BK194.out) hb)
                        have n4_ := Aside0.mk (below_step (by repeat (first | (with_reducible first | exact HB.out | apply below_alloc | apply pw_below_drewN | apply below_drew1 | refine below_set ?_ GE194.out) | exact HB.out)) hb)
                        clear HO_4
                        clear HO_5
                        clear BK194
                        clear HB
                        have HO_4 := n0_
                        have HO_5 := n1_
                        have HO197 := n2_
                        have BK194 := n3_
                        have HB := n4_
                        clear n0_ n1_ n2_ n3_ n4_
                        clear hb ho20
                        obtain ⟨Ao22, co22, eo22⟩ := Kd.R_slice HO197.out
                        (first | subst eo22 | (injection eo22 with f1_ f2_ f3_; have f4_ := f1_.symm; have f5_ := f3_.symm; clear f1_ f2_ f3_; subst f4_; subst f5_))
                        refine hK.out _ _ ⟨(blk_cell BK194.out 0).trans rfl, (blk_cell BK194.out 1).trans rfl, (blk_cell BK194.out 2).trans rfl⟩ (fun hHeld => ?_)
                        clear hK K
                        refine norm_ (a' := ?_) ?_ ?_
                        rotate_left
                        · show Act.put _ (some 44) _ = _
                          simp only [Act.put, List.setIfInBounds_toArray, List.set_cons_zero, List.set_cons_succ, i64_w, i32_w]
                          rfl
                        refine two_ (i := 3) (j := 6) (Ni := some 45) (Nj := some 48) #[true, true, true, true, true, true, false, false, false, false] #[true, true, true, false, true, true, true, false, false, false] rfl rfl rfl rfl (two_of HT_.out (by kernel_rfl)) (by decide) (by decide) (fun K hK => ?_) (fun K hK => ?_)
                        · skip
                          refine Kd.R_append_rows_step k36 (w0 := w) w.heap.size (by rfl) (.tmp 42) (.tmp 44) 24 36 (.agg #[(.string ⟨#[]⟩), (.int .i64 0), (.bool false)]) 32 rfl Try.underlying24 info36 rfl (by decide) (by omega) (.slice Ao15 x4_1.length co15) x4_1 y195 _ _ _ (fun k_ => some k_ ≠ (.slice Ao22 y195.length co22 : Value).ownBlock) (fun _ => False) rfl rfl ?aO ?aR (fun _ _ h => h) (fun _ h => h.elim) ?aF ?aB ?aS ?aL ?_
                          (case aR => repeat (first | exact (Kd.R_reads' HO197.out).2.2 | (with_reducible refine Kd.C_alloc ?_ _) | (with_reducible refine Kd.C_drewN ?_ _) | (with_reducible refine Kd.C_drew ?_)))
                          (case aB => exact (by repeat (first | (with_reducible first | exact HB.out | apply below_alloc | apply pw_below_drewN | apply below_drew1 | refine below_set ?_ GE194.out) | exact HB.out)))
                          (case aF => exact (fun k_ hk => Kd.fresh' (Kd.R_lt (by (with_reducible repeat (first | apply Kd.R_alloc | apply Kd.R_drewN | apply Kd.R_drew)); exact HO197.out)) k_ hk))
                          (case aO => exact (by (with_reducible repeat (first | apply Kd.R_alloc | apply Kd.R_drewN | apply Kd.R_drew)); exact Kd.R_mono HO_4.out (fun _ hk => hk.2)))
                          (case aS => exact (below_size (by repeat (first | (with_reducible first | exact HB.out | apply below_alloc | apply pw_below_drewN | apply below_drew1 | refine below_set ?_ GE194.out) | exact HB.out))))
                          (case aL => have := LMc8.out; omega)
                          intro v199 w21 ho hb hg hat
                          rw [← Ny198.out] at ho
                          have n0_ := Aside0.mk (Kd.R_over' (by (with_reducible repeat (first | apply Kd.R_alloc | apply Kd.R_drewN | apply Kd.R_drew)); exact HO_5.out) (Kd.R_typed (by (with_reducible repeat (first | apply Kd.R_alloc | apply Kd.R_drewN | apply Kd.R_drew)); exact HO_4.out)) (by decide) hg)
                          have n1_ := Aside0.mk (blk_grown (g := gb194) (o := .cells #[.string (((rd_T52 l0 x6_1).f0).extract 0 ((ji5) : Int).toNat), .int .i64 ((rd_T52 l0 x6_1).f1), .bool ((rd_T52 l0 x6_1).f2)] 52 (0, 0)) (by (with_reducible repeat (first | refine blk_drewN ?_ _ | refine blk_drew ?_ | refine blk_alloc ?_ _)); exact BK194.out) hg (Kd.R_ne HO_4.out BK194.out (by decide)))
                          have n2_ := Aside0.mk (Kd.R_after (ok := (fun _ => True)) (by (with_reducible repeat (first | apply Kd.R_alloc | apply Kd.R_drewN | apply Kd.R_drew)); exact HO197.out) hg hat)
                          have n3_ := Aside0.mk (hb)
                          have n4_ := Aside0.mk (ho)
                          clear HO_5
                          clear BK194
                          clear HO197
                          clear HB
                          clear HO_4
                          have HO_5 := n0_
                          have BK194 := n1_
                          have HO197 := n2_
                          have HB := n3_
                          have HO200 := n4_
                          clear n0_ n1_ n2_ n3_ n4_
                          clear ho hb hg hat
                          refine hK.out _ _ ⟨(blk_cell BK194.out 0).trans rfl, (blk_cell BK194.out 1).trans rfl, (blk_cell BK194.out 2).trans rfl⟩ (fun hHeld => ?_)
                          clear hK K
                          refine norm_ (a' := ?_) ?_ ?_
                          rotate_left
                          · show Act.put _ (some 45) _ = _
                            simp only [Act.put, List.setIfInBounds_toArray, List.set_cons_zero, List.set_cons_succ, i64_w, i32_w]
                            rfl
                          refine one_ (i := 6) (N := some 48) #[true, true, true, true, true, true, true, false, false, false] rfl rfl (one_of HT_.out (by kernel_rfl)) (by decide) (fun K hK => ?_)
                          refine Kd.R_lit_step k40 _ 40 ?hg (N := 48) ?hd (xs := ([(⟨((rd_T52 l0 x6_1).f0).extract 0 ((ji5) : Int).toNat, (rd_T52 l0 x6_1).f1, (rd_T52 l0 x6_1).f2⟩ : S40)] : List (S40))) (inner := [.string (((rd_T52 l0 x6_1).f0).extract 0 ((ji5) : Int).toNat), .int .i64 ((rd_T52 l0 x6_1).f1), .bool ((rd_T52 l0 x6_1).f2)]) (ok := fun _ => True) (okp := fun _ => True) ?hr ?hp (fun _ hk => hk) trivial (Below.refl _ _) (Nat.le_refl _) (by simp) ?_; (case hd => rfl); (case hg => rfl); (case hr => first | (go_simp; done) | (go_simp; rfl)); (case hp => exact (Reps.c3 (show Kd.M k40 _ _ _ (⟨((rd_T52 l0 x6_1).f0).extract 0 ((ji5) : Int).toNat, (rd_T52 l0 x6_1).f1, (rd_T52 l0 x6_1).f2⟩ : S40) [.string (((rd_T52 l0 x6_1).f0).extract 0 ((ji5) : Int).toNat), .int .i64 ((rd_T52 l0 x6_1).f1), .bool ((rd_T52 l0 x6_1).f2)] from (k40_mkM _ _ _ (⟨((rd_T52 l0 x6_1).f0).extract 0 ((ji5) : Int).toNat, (rd_T52 l0 x6_1).f1, (rd_T52 l0 x6_1).f2⟩ : S40) )) (Reps.none _ _)))
                          intro v202 w23 ho24 hb hg_ hnew_
                          clear hg_ hnew_
                          (first | rw [← Ny201.out] at ho24 | (simp only [Int.reduceToNat] at ho24; rw [← Ny201.out] at ho24))
                          have n0_ := Aside0.mk (Kd.R_elder' (by (with_reducible repeat (first | apply Kd.R_alloc | apply Kd.R_drewN | apply Kd.R_drew)); exact HO_5.out) (Kd.R_base ho24) hb)
                          have n1_ := Aside0.mk (Kd.R_below (by (with_reducible repeat (first | apply Kd.R_alloc | apply Kd.R_drewN | apply Kd.R_drew)); exact HO197.out) hb)
                          have n2_ := Aside0.mk (Kd.R_below (by (with_reducible repeat (first | apply Kd.R_alloc | apply Kd.R_drewN | apply Kd.R_drew)); exact HO200.out) hb)
                          have n3_ := Aside0.mk (Kd.R_lower (Kd.R_new' ho24 (Kd.R_lt (by (with_reducible repeat (first | apply Kd.R_alloc | apply Kd.R_drewN | apply Kd.R_drew)); exact HO_5.out))) (below_size (by repeat (first | (with_reducible first | exact HB.out | apply below_alloc | apply pw_below_drewN | apply below_drew1 | refine below_set ?_ GE194.out) | exact HB.out))))
                          have n4_ := Aside0.mk (blk_below (g := gb194) (o := .cells #[.string (((rd_T52 l0 x6_1).f0).extract 0 ((ji5) : Int).toNat), .int .i64 ((rd_T52 l0 x6_1).f1), .bool ((rd_T52 l0 x6_1).f2)] 52 (0, 0)) (by (with_reducible repeat (first | refine blk_drewN ?_ _ | refine blk_drew ?_ | refine blk_alloc ?_ _)); exact BK194.out) hb)
                          have n5_ := Aside0.mk (below_step (by repeat (first | (with_reducible first | exact HB.out | apply below_alloc | apply pw_below_drewN | apply below_drew1 | refine below_set ?_ GE194.out) | exact HB.out)) hb)
                          clear HO_5
                          clear HO197
                          clear HO200
                          clear BK194
                          clear HB
                          have HO_5 := n0_
                          have HO197 := n1_
                          have HO200 := n2_
                          have HO203 := n3_
                          have BK194 := n4_
                          have HB := n5_
                          clear n0_ n1_ n2_ n3_ n4_ n5_
                          clear hb ho24
                          refine hK.out _ _ ⟨(blk_cell BK194.out 0).trans rfl, (blk_cell BK194.out 1).trans rfl, (blk_cell BK194.out 2).trans rfl⟩ (fun hHeld => ?_)
                          clear hK K
                          refine norm_ (a' := ?_) ?_ ?_
                          rotate_left
                          · show Act.put _ (some 48) _ = _
                            simp only [Act.put, List.setIfInBounds_toArray, List.set_cons_zero, List.set_cons_succ, i64_w, i32_w]
                            rfl
                          exact norm_ (by simp only [putAll, Act.put, List.setIfInBounds_toArray, List.set_cons_zero, List.set_cons_succ]) (hCont (.slice Ao22 y195.length co22, v199, v202) _ ⟨hHeld, (by (with_reducible repeat (first | apply Kd.R_alloc | apply Kd.R_drewN | apply Kd.R_drew)); exact Kd.R_mono HO197.out (fun _ hk => hk.2)), (by (with_reducible repeat (first | apply Kd.R_alloc | apply Kd.R_drewN | apply Kd.R_drew)); exact HO200.out), (by (with_reducible repeat (first | apply Kd.R_alloc | apply Kd.R_drewN | apply Kd.R_drew)); exact Kd.R_mono HO203.out (fun _ hk => hk.2)), (by (with_reducible repeat (first | apply Kd.R_alloc | apply Kd.R_drewN | apply Kd.R_drew)); exact Kd.R_mono HO_5.out (fun _ hk => hk.2)), (by (with_reducible repeat (first | refine blk_drewN ?_ _ | refine blk_drew ?_ | refine blk_alloc ?_ _)); exact BK194.out), (by repeat (first | (with_reducible first | exact HB.out | apply below_alloc | apply pw_below_drewN | apply below_drew1 | refine below_set ?_ GE194.out) | exact HB.out))⟩)
                        · skip
                          refine Kd.R_lit_step k40 _ 40 ?hg (N := 48) ?hd (xs := ([(⟨((rd_T52 l0 x6_1).f0).extract 0 ((ji5) : Int).toNat, (rd_T52 l0 x6_1).f1, (rd_T52 l0 x6_1).f2⟩ : S40)] : List (S40))) (inner := [.string (((rd_T52 l0 x6_1).f0).extract 0 ((ji5) : Int).toNat), .int .i64 ((rd_T52 l0 x6_1).f1), .bool ((rd_T52 l0 x6_1).f2)]) (ok := fun _ => True) (okp := fun _ => True) ?hr ?hp (fun _ hk => hk) trivial (Below.refl _ _) (Nat.le_refl _) (by simp) ?_; (case hd => rfl); (case hg => rfl); (case hr => first | (go_simp; done) | (go_simp; rfl)); (case hp => exact (Reps.c3 (show Kd.M k40 _ _ _ (⟨((rd_T52 l0 x6_1).f0).extract 0 ((ji5) : Int).toNat, (rd_T52 l0 x6_1).f1, (rd_T52 l0 x6_1).f2⟩ : S40) [.string (((rd_T52 l0 x6_1).f0).extract 0 ((ji5) : Int).toNat), .int .i64 ((rd_T52 l0 x6_1).f1), .bool ((rd_T52 l0 x6_1).f2)] from (k40_mkM _ _ _ (⟨((rd_T52 l0 x6_1).f0).extract 0 ((ji5) : Int).toNat, (rd_T52 l0 x6_1).f1, (rd_T52 l0 x6_1).f2⟩ : S40) )) (Reps.none _ _)))
                          intro v202 w21 ho22 hb hg_ hnew_
                          clear hg_ hnew_
                          (first | rw [← Ny201.out] at ho22 | (simp only [Int.reduceToNat] at ho22; rw [← Ny201.out] at ho22))
                          have n0_ := Aside0.mk (Kd.R_below (by (with_reducible repeat (first | apply Kd.R_alloc | apply Kd.R_drewN | apply Kd.R_drew)); exact HO_4.out) hb)
                          have n1_ := Aside0.mk (Kd.R_elder' (by (with_reducible repeat (first | apply Kd.R_alloc | apply Kd.R_drewN | apply Kd.R_drew)); exact HO_5.out) (Kd.R_base ho22) hb)
                          have n2_ := Aside0.mk (Kd.R_below (by (with_reducible repeat (first | apply Kd.R_alloc | apply Kd.R_drewN | apply Kd.R_drew)); exact HO197.out) hb)
                          have n3_ := Aside0.mk (Kd.R_lower (Kd.R_new' ho22 (Kd.R_lt (by (with_reducible repeat (first | apply Kd.R_alloc | apply Kd.R_drewN | apply Kd.R_drew)); exact HO_5.out))) (below_size (by repeat (first | (with_reducible first | exact HB.out | apply below_alloc | apply pw_below_drewN | apply below_drew1 | refine below_set ?_ GE194.out) | exact HB.out))))
                          have n4_ := Aside0.mk (blk_below (g := gb194) (o := .cells #[.string (((rd_T52 l0 x6_1).f0).extract 0 ((ji5) : Int).toNat), .int .i64 ((rd_T52 l0 x6_1).f1), .bool ((rd_T52 l0 x6_1).f2)] 52 (0, 0)) (by (with_reducible repeat (first | refine blk_drewN ?_ _ | refine blk_drew ?_ | refine blk_alloc ?_ _)); exact BK194.out) hb)
                          have n5_ := Aside0.mk (below_step (by repeat (first | (with_reducible first | exact HB.out | apply below_alloc | apply pw_below_drewN | apply below_drew1 | refine below_set ?_ GE194.out) | exact HB.out)) hb)
                          clear HO_4
                          clear HO_5
                          clear HO197
                          clear BK194
                          clear HB
                          have HO_4 := n0_
                          have HO_5 := n1_
                          have HO197 := n2_
                          have HO203 := n3_
                          have BK194 := n4_
                          have HB := n5_
                          clear n0_ n1_ n2_ n3_ n4_ n5_
                          clear hb ho22
                          obtain ⟨Ao24, co24, eo24⟩ := Kd.R_slice HO197.out
                          (first | subst eo24 | (injection eo24 with f1_ f2_ f3_; have f4_ := f1_.symm; have f5_ := f3_.symm; clear f1_ f2_ f3_; subst f4_; subst f5_))
                          refine hK.out _ _ ⟨(blk_cell BK194.out 0).trans rfl, (blk_cell BK194.out 1).trans rfl, (blk_cell BK194.out 2).trans rfl⟩ (fun hHeld => ?_)
                          clear hK K
                          refine norm_ (a' := ?_) ?_ ?_
                          rotate_left
                          · show Act.put _ (some 48) _ = _
                            simp only [Act.put, List.setIfInBounds_toArray, List.set_cons_zero, List.set_cons_succ, i64_w, i32_w]
                            rfl
                          refine one_ (i := 3) (N := some 45) #[true, true, true, true, true, true, true, false, false, false] rfl rfl (one_of HT_.out (by kernel_rfl)) (by decide) (fun K hK => ?_)
                          refine Kd.R_append_rows_step k36 (w0 := w) w.heap.size (by rfl) (.tmp 42) (.tmp 44) 24 36 (.agg #[(.string ⟨#[]⟩), (.int .i64 0), (.bool false)]) 32 rfl Try.underlying24 info36 rfl (by decide) (by omega) (.slice Ao15 x4_1.length co15) x4_1 y195 _ _ _ (fun k_ => some k_ ≠ (.slice Ao24 y195.length co24 : Value).ownBlock) (fun _ => False) rfl rfl ?aO ?aR (fun _ _ h => h) (fun _ h => h.elim) ?aF ?aB ?aS ?aL ?_
                          (case aR => repeat (first | exact (Kd.R_reads' HO197.out).2.2 | (with_reducible refine Kd.C_alloc ?_ _) | (with_reducible refine Kd.C_drewN ?_ _) | (with_reducible refine Kd.C_drew ?_)))
                          (case aB => exact (by repeat (first | (with_reducible first | exact HB.out | apply below_alloc | apply pw_below_drewN | apply below_drew1 | refine below_set ?_ GE194.out) | exact HB.out)))
                          (case aF => exact (fun k_ hk => Kd.fresh' (Kd.R_lt (by (with_reducible repeat (first | apply Kd.R_alloc | apply Kd.R_drewN | apply Kd.R_drew)); exact HO197.out)) k_ hk))
                          (case aO => exact (by (with_reducible repeat (first | apply Kd.R_alloc | apply Kd.R_drewN | apply Kd.R_drew)); exact Kd.R_mono HO_4.out (fun _ hk => hk.2)))
                          (case aS => exact (below_size (by repeat (first | (with_reducible first | exact HB.out | apply below_alloc | apply pw_below_drewN | apply below_drew1 | refine below_set ?_ GE194.out) | exact HB.out))))
                          (case aL => have := LMc8.out; omega)
                          intro v199 w23 ho hb hg hat
                          rw [← Ny198.out] at ho
                          have n0_ := Aside0.mk (Kd.R_over' (by (with_reducible repeat (first | apply Kd.R_alloc | apply Kd.R_drewN | apply Kd.R_drew)); exact HO_5.out) (Kd.R_typed (by (with_reducible repeat (first | apply Kd.R_alloc | apply Kd.R_drewN | apply Kd.R_drew)); exact HO_4.out)) (by decide) hg)
                          have n1_ := Aside0.mk (blk_grown (g := gb194) (o := .cells #[.string (((rd_T52 l0 x6_1).f0).extract 0 ((ji5) : Int).toNat), .int .i64 ((rd_T52 l0 x6_1).f1), .bool ((rd_T52 l0 x6_1).f2)] 52 (0, 0)) (by (with_reducible repeat (first | refine blk_drewN ?_ _ | refine blk_drew ?_ | refine blk_alloc ?_ _)); exact BK194.out) hg (Kd.R_ne HO_4.out BK194.out (by decide)))
                          have n2_ := Aside0.mk (Kd.R_after (ok := (fun _ => True)) (by (with_reducible repeat (first | apply Kd.R_alloc | apply Kd.R_drewN | apply Kd.R_drew)); exact HO197.out) hg hat)
                          have n3_ := Aside0.mk (Kd.R_over' (by (with_reducible repeat (first | apply Kd.R_alloc | apply Kd.R_drewN | apply Kd.R_drew)); exact HO203.out) (Kd.R_typed (by (with_reducible repeat (first | apply Kd.R_alloc | apply Kd.R_drewN | apply Kd.R_drew)); exact HO_4.out)) (by decide) hg)
                          have n4_ := Aside0.mk (hb)
                          have n5_ := Aside0.mk (ho)
                          clear HO_5
                          clear BK194
                          clear HO197
                          clear HO203
                          clear HB
                          clear HO_4
                          have HO_5 := n0_
                          have BK194 := n1_
                          have HO197 := n2_
                          have HO203 := n3_
                          have HB := n4_
                          have HO200 := n5_
                          clear n0_ n1_ n2_ n3_ n4_ n5_
                          clear ho hb hg hat
                          refine hK.out _ _ ⟨(blk_cell BK194.out 0).trans rfl, (blk_cell BK194.out 1).trans rfl, (blk_cell BK194.out 2).trans rfl⟩ (fun hHeld => ?_)
                          clear hK K
                          refine norm_ (a' := ?_) ?_ ?_
                          rotate_left
                          · show Act.put _ (some 45) _ = _
                            simp only [Act.put, List.setIfInBounds_toArray, List.set_cons_zero, List.set_cons_succ, i64_w, i32_w]
                            rfl
                          exact norm_ (by simp only [putAll, Act.put, List.setIfInBounds_toArray, List.set_cons_zero, List.set_cons_succ]) (hCont (.slice Ao24 y195.length co24, v199, v202) _ ⟨hHeld, (by (with_reducible repeat (first | apply Kd.R_alloc | apply Kd.R_drewN | apply Kd.R_drew)); exact Kd.R_mono HO197.out (fun _ hk => hk.2)), (by (with_reducible repeat (first | apply Kd.R_alloc | apply Kd.R_drewN | apply Kd.R_drew)); exact HO200.out), (by (with_reducible repeat (first | apply Kd.R_alloc | apply Kd.R_drewN | apply Kd.R_drew)); exact Kd.R_mono HO203.out (fun _ hk => hk.2)), (by (with_reducible repeat (first | apply Kd.R_alloc | apply Kd.R_drewN | apply Kd.R_drew)); exact Kd.R_mono HO_5.out (fun _ hk => hk.2)), (by (with_reducible repeat (first | refine blk_drewN ?_ _ | refine blk_drew ?_ | refine blk_alloc ?_ _)); exact BK194.out), (by repeat (first | (with_reducible first | exact HB.out | apply below_alloc | apply pw_below_drewN | apply below_drew1 | refine below_set ?_ GE194.out) | exact HB.out))⟩)
                      · skip
                        refine Kd.R_lit_step k40 _ 40 ?hg (N := 48) ?hd (xs := ([(⟨((rd_T52 l0 x6_1).f0).extract 0 ((ji5) : Int).toNat, (rd_T52 l0 x6_1).f1, (rd_T52 l0 x6_1).f2⟩ : S40)] : List (S40))) (inner := [.string (((rd_T52 l0 x6_1).f0).extract 0 ((ji5) : Int).toNat), .int .i64 ((rd_T52 l0 x6_1).f1), .bool ((rd_T52 l0 x6_1).f2)]) (ok := fun _ => True) (okp := fun _ => True) ?hr ?hp (fun _ hk => hk) trivial (Below.refl _ _) (Nat.le_refl _) (by simp) ?_; (case hd => rfl); (case hg => rfl); (case hr => first | (go_simp; done) | (go_simp; rfl)); (case hp => exact (Reps.c3 (show Kd.M k40 _ _ _ (⟨((rd_T52 l0 x6_1).f0).extract 0 ((ji5) : Int).toNat, (rd_T52 l0 x6_1).f1, (rd_T52 l0 x6_1).f2⟩ : S40) [.string (((rd_T52 l0 x6_1).f0).extract 0 ((ji5) : Int).toNat), .int .i64 ((rd_T52 l0 x6_1).f1), .bool ((rd_T52 l0 x6_1).f2)] from (k40_mkM _ _ _ (⟨((rd_T52 l0 x6_1).f0).extract 0 ((ji5) : Int).toNat, (rd_T52 l0 x6_1).f1, (rd_T52 l0 x6_1).f2⟩ : S40) )) (Reps.none _ _)))
                        intro v202 w19 ho20 hb hg_ hnew_
                        clear hg_ hnew_
                        (first | rw [← Ny201.out] at ho20 | (simp only [Int.reduceToNat] at ho20; rw [← Ny201.out] at ho20))
                        have n0_ := Aside0.mk (Kd.R_below (by (with_reducible repeat (first | apply Kd.R_alloc | apply Kd.R_drewN | apply Kd.R_drew)); exact HO_4.out) hb)
                        have n1_ := Aside0.mk (Kd.R_elder' (by (with_reducible repeat (first | apply Kd.R_alloc | apply Kd.R_drewN | apply Kd.R_drew)); exact HO_5.out) (Kd.R_base ho20) hb)
                        have n2_ := Aside0.mk (Kd.R_lower (Kd.R_new' ho20 (Kd.R_lt (by (with_reducible repeat (first | apply Kd.R_alloc | apply Kd.R_drewN | apply Kd.R_drew)); exact HO_5.out))) (below_size (by repeat (first | (with_reducible first | exact HB.out | apply below_alloc | apply pw_below_drewN | apply below_drew1 | refine below_set ?_ GE194.out) | exact HB.out))))
                        have n3_ := Aside0.mk (blk_below (g := gb194) (o := .cells #[.string (((rd_T52 l0 x6_1).f0).extract 0 ((ji5) : Int).toNat), .int .i64 ((rd_T52 l0 x6_1).f1), .bool ((rd_T52 l0 x6_1).f2)] 52 (0, 0)) (by (with_reducible repeat (first | refine blk_drewN ?_ _ | refine blk_drew ?_ | refine blk_alloc ?_ _)); exact BK194.out) hb)
                        have n4_ := Aside0.mk (below_step (by repeat (first | (with_reducible first | exact HB.out | apply below_alloc | apply pw_below_drewN | apply below_drew1 | refine below_set ?_ GE194.out) | exact HB.out)) hb)
                        clear HO_4
                        clear HO_5
                        clear BK194
                        clear HB
                        have HO_4 := n0_
                        have HO_5 := n1_
                        have HO203 := n2_
                        have BK194 := n3_
                        have HB := n4_
                        clear n0_ n1_ n2_ n3_ n4_
                        clear hb ho20
                        refine hK.out _ _ ⟨(blk_cell BK194.out 0).trans rfl, (blk_cell BK194.out 1).trans rfl, (blk_cell BK194.out 2).trans rfl⟩ (fun hHeld => ?_)
                        clear hK K
                        refine norm_ (a' := ?_) ?_ ?_
                        rotate_left
                        · show Act.put _ (some 48) _ = _
                          simp only [Act.put, List.setIfInBounds_toArray, List.set_cons_zero, List.set_cons_succ, i64_w, i32_w]
                          rfl
                        refine one_ (i := 2) (N := some 44) #[true, true, true, false, true, true, true, false, false, false] rfl rfl (one_of HT_.out (by kernel_rfl)) (by decide) (fun K hK => ?_)
                        refine Kd.R_lit_step k36 _ 36 ?hg (N := 44) ?hd (xs := ([(⟨((rd_T52 l0 x6_1).f0).extract 0 ((ji5) : Int).toNat, (rd_T52 l0 x6_1).f1, (rd_T52 l0 x6_1).f2⟩ : S36)] : List (S36))) (inner := [.string (((rd_T52 l0 x6_1).f0).extract 0 ((ji5) : Int).toNat), .int .i64 ((rd_T52 l0 x6_1).f1), .bool ((rd_T52 l0 x6_1).f2)]) (ok := fun _ => True) (okp := fun _ => True) ?hr ?hp (fun _ hk => hk) trivial (Below.refl _ _) (Nat.le_refl _) (by simp) ?_; (case hd => rfl); (case hg => rfl); (case hr => first | (go_simp; done) | (go_simp; rfl)); (case hp => exact (Reps.c3 (show Kd.M k36 _ _ _ (⟨((rd_T52 l0 x6_1).f0).extract 0 ((ji5) : Int).toNat, (rd_T52 l0 x6_1).f1, (rd_T52 l0 x6_1).f2⟩ : S36) [.string (((rd_T52 l0 x6_1).f0).extract 0 ((ji5) : Int).toNat), .int .i64 ((rd_T52 l0 x6_1).f1), .bool ((rd_T52 l0 x6_1).f2)] from (k36_mkM _ _ _ (⟨((rd_T52 l0 x6_1).f0).extract 0 ((ji5) : Int).toNat, (rd_T52 l0 x6_1).f1, (rd_T52 l0 x6_1).f2⟩ : S36) )) (Reps.none _ _)))
                        intro v196 w21 ho22 hb hg_ hnew_
                        clear hg_ hnew_
                        (first | rw [← Ny195.out] at ho22 | (simp only [Int.reduceToNat] at ho22; rw [← Ny195.out] at ho22))
                        have n0_ := Aside0.mk (Kd.R_elder' (by (with_reducible repeat (first | apply Kd.R_alloc | apply Kd.R_drewN | apply Kd.R_drew)); exact HO_4.out) (Kd.R_base ho22) hb)
                        have n1_ := Aside0.mk (Kd.R_below (by (with_reducible repeat (first | apply Kd.R_alloc | apply Kd.R_drewN | apply Kd.R_drew)); exact HO_5.out) hb)
                        have n2_ := Aside0.mk (Kd.R_below (by (with_reducible repeat (first | apply Kd.R_alloc | apply Kd.R_drewN | apply Kd.R_drew)); exact HO203.out) hb)
                        have n3_ := Aside0.mk (Kd.R_lower (Kd.R_new' ho22 (Kd.R_lt (by (with_reducible repeat (first | apply Kd.R_alloc | apply Kd.R_drewN | apply Kd.R_drew)); exact HO_4.out))) (below_size (by repeat (first | (with_reducible first | exact HB.out | apply below_alloc | apply pw_below_drewN | apply below_drew1 | refine below_set ?_ GE194.out) | exact HB.out))))
                        have n4_ := Aside0.mk (blk_below (g := gb194) (o := .cells #[.string (((rd_T52 l0 x6_1).f0).extract 0 ((ji5) : Int).toNat), .int .i64 ((rd_T52 l0 x6_1).f1), .bool ((rd_T52 l0 x6_1).f2)] 52 (0, 0)) (by (with_reducible repeat (first | refine blk_drewN ?_ _ | refine blk_drew ?_ | refine blk_alloc ?_ _)); exact BK194.out) hb)
                        have n5_ := Aside0.mk (below_step (by repeat (first | (with_reducible first | exact HB.out | apply below_alloc | apply pw_below_drewN | apply below_drew1 | refine below_set ?_ GE194.out) | exact HB.out)) hb)
                        clear HO_4
                        clear HO_5
                        clear HO203
                        clear BK194
                        clear HB
                        have HO_4 := n0_
                        have HO_5 := n1_
                        have HO203 := n2_
                        have HO197 := n3_
                        have BK194 := n4_
                        have HB := n5_
                        clear n0_ n1_ n2_ n3_ n4_ n5_
                        clear hb ho22
                        obtain ⟨Ao24, co24, eo24⟩ := Kd.R_slice HO197.out
                        (first | subst eo24 | (injection eo24 with f1_ f2_ f3_; have f4_ := f1_.symm; have f5_ := f3_.symm; clear f1_ f2_ f3_; subst f4_; subst f5_))
                        refine hK.out _ _ ⟨(blk_cell BK194.out 0).trans rfl, (blk_cell BK194.out 1).trans rfl, (blk_cell BK194.out 2).trans rfl⟩ (fun hHeld => ?_)
                        clear hK K
                        refine norm_ (a' := ?_) ?_ ?_
                        rotate_left
                        · show Act.put _ (some 44) _ = _
                          simp only [Act.put, List.setIfInBounds_toArray, List.set_cons_zero, List.set_cons_succ, i64_w, i32_w]
                          rfl
                        refine one_ (i := 3) (N := some 45) #[true, true, true, true, true, true, true, false, false, false] rfl rfl (one_of HT_.out (by kernel_rfl)) (by decide) (fun K hK => ?_)
                        refine Kd.R_append_rows_step k36 (w0 := w) w.heap.size (by rfl) (.tmp 42) (.tmp 44) 24 36 (.agg #[(.string ⟨#[]⟩), (.int .i64 0), (.bool false)]) 32 rfl Try.underlying24 info36 rfl (by decide) (by omega) (.slice Ao15 x4_1.length co15) x4_1 y195 _ _ _ (fun k_ => some k_ ≠ (.slice Ao24 y195.length co24 : Value).ownBlock) (fun _ => False) rfl rfl ?aO ?aR (fun _ _ h => h) (fun _ h => h.elim) ?aF ?aB ?aS ?aL ?_
                        (case aR => repeat (first | exact (Kd.R_reads' HO197.out).2.2 | (with_reducible refine Kd.C_alloc ?_ _) | (with_reducible refine Kd.C_drewN ?_ _) | (with_reducible refine Kd.C_drew ?_)))
                        (case aB => exact (by repeat (first | (with_reducible first | exact HB.out | apply below_alloc | apply pw_below_drewN | apply below_drew1 | refine below_set ?_ GE194.out) | exact HB.out)))
                        (case aF => exact (fun k_ hk => Kd.fresh' (Kd.R_lt (by (with_reducible repeat (first | apply Kd.R_alloc | apply Kd.R_drewN | apply Kd.R_drew)); exact HO197.out)) k_ hk))
                        (case aO => exact (by (with_reducible repeat (first | apply Kd.R_alloc | apply Kd.R_drewN | apply Kd.R_drew)); exact Kd.R_mono HO_4.out (fun _ hk => hk.2)))
                        (case aS => exact (below_size (by repeat (first | (with_reducible first | exact HB.out | apply below_alloc | apply pw_below_drewN | apply below_drew1 | refine below_set ?_ GE194.out) | exact HB.out))))
                        (case aL => have := LMc8.out; omega)
                        intro v199 w23 ho hb hg hat
                        rw [← Ny198.out] at ho
                        have n0_ := Aside0.mk (Kd.R_over' (by (with_reducible repeat (first | apply Kd.R_alloc | apply Kd.R_drewN | apply Kd.R_drew)); exact HO_5.out) (Kd.R_typed (by (with_reducible repeat (first | apply Kd.R_alloc | apply Kd.R_drewN | apply Kd.R_drew)); exact HO_4.out)) (by decide) hg)
                        have n1_ := Aside0.mk (blk_grown (g := gb194) (o := .cells #[.string (((rd_T52 l0 x6_1).f0).extract 0 ((ji5) : Int).toNat), .int .i64 ((rd_T52 l0 x6_1).f1), .bool ((rd_T52 l0 x6_1).f2)] 52 (0, 0)) (by (with_reducible repeat (first | refine blk_drewN ?_ _ | refine blk_drew ?_ | refine blk_alloc ?_ _)); exact BK194.out) hg (Kd.R_ne HO_4.out BK194.out (by decide)))
                        have n2_ := Aside0.mk (Kd.R_over' (by (with_reducible repeat (first | apply Kd.R_alloc | apply Kd.R_drewN | apply Kd.R_drew)); exact HO203.out) (Kd.R_typed (by (with_reducible repeat (first | apply Kd.R_alloc | apply Kd.R_drewN | apply Kd.R_drew)); exact HO_4.out)) (by decide) hg)
                        have n3_ := Aside0.mk (Kd.R_after (ok := (fun _ => True)) (by (with_reducible repeat (first | apply Kd.R_alloc | apply Kd.R_drewN | apply Kd.R_drew)); exact HO197.out) hg hat)
                        have n4_ := Aside0.mk (hb)
                        have n5_ := Aside0.mk (ho)
                        clear HO_5
                        clear BK194
                        clear HO203
                        clear HO197
                        clear HB
                        clear HO_4
                        have HO_5 := n0_
                        have BK194 := n1_
                        have HO203 := n2_
                        have HO197 := n3_
                        have HB := n4_
                        have HO200 := n5_
                        clear n0_ n1_ n2_ n3_ n4_ n5_
                        clear ho hb hg hat
                        refine hK.out _ _ ⟨(blk_cell BK194.out 0).trans rfl, (blk_cell BK194.out 1).trans rfl, (blk_cell BK194.out 2).trans rfl⟩ (fun hHeld => ?_)
                        clear hK K
                        refine norm_ (a' := ?_) ?_ ?_
                        rotate_left
                        · show Act.put _ (some 45) _ = _
                          simp only [Act.put, List.setIfInBounds_toArray, List.set_cons_zero, List.set_cons_succ, i64_w, i32_w]
                          rfl
                        exact norm_ (by simp only [putAll, Act.put, List.setIfInBounds_toArray, List.set_cons_zero, List.set_cons_succ]) (hCont (.slice Ao24 y195.length co24, v199, v202) _ ⟨hHeld, (by (with_reducible repeat (first | apply Kd.R_alloc | apply Kd.R_drewN | apply Kd.R_drew)); exact Kd.R_mono HO197.out (fun _ hk => hk.2)), (by (with_reducible repeat (first | apply Kd.R_alloc | apply Kd.R_drewN | apply Kd.R_drew)); exact HO200.out), (by (with_reducible repeat (first | apply Kd.R_alloc | apply Kd.R_drewN | apply Kd.R_drew)); exact Kd.R_mono HO203.out (fun _ hk => hk.2)), (by (with_reducible repeat (first | apply Kd.R_alloc | apply Kd.R_drewN | apply Kd.R_drew)); exact Kd.R_mono HO_5.out (fun _ hk => hk.2)), (by (with_reducible repeat (first | refine blk_drewN ?_ _ | refine blk_drew ?_ | refine blk_alloc ?_ _)); exact BK194.out), (by repeat (first | (with_reducible first | exact HB.out | apply below_alloc | apply pw_below_drewN | apply below_drew1 | refine below_set ?_ GE194.out) | exact HB.out))⟩)
                    rintro ⟨v196, v199, v202⟩ w25 ⟨hS_, h0_, h1_, h2_, h3_, h4_, h5_⟩
                    have n0_ : Aside0 (Kd.R k36 36 w25 w.heap.size (fun k_ => some k_ ≠ (v199 : Value).ownBlock) v196 y195) := ⟨h0_⟩
                    have n1_ : Aside0 (Kd.R k36 36 w25 w.heap.size (fun k_ => some k_ ≠ (v196 : Value).ownBlock) v199 y198) := ⟨h1_⟩
                    have n2_ : Aside0 (Kd.R k40 40 w25 w.heap.size (fun k_ => some k_ ≠ (.slice Ao16 x5_1.length co16 : Value).ownBlock) v202 y201) := ⟨h2_⟩
                    have n3_ : Aside0 (Kd.R k40 40 w25 w.heap.size (fun k_ => some k_ ≠ (v202 : Value).ownBlock) (.slice Ao16 x5_1.length co16) x5_1) := ⟨h3_⟩
                    have n4_ : Aside0 (w25.heap[gb194]? = some (.cells #[.string (((rd_T52 l0 x6_1).f0).extract 0 ((ji5) : Int).toNat), .int .i64 ((rd_T52 l0 x6_1).f1), .bool ((rd_T52 l0 x6_1).f2)] 52 (0, 0))) := ⟨h4_⟩
                    have n5_ : Aside0 (Below w.heap.size w w25) := ⟨h5_⟩
                    clear HO_4
                    clear HO_5
                    clear BK194
                    clear HB
                    clear h0_ h1_ h2_ h3_ h4_ h5_
                    have HO197 := n0_
                    have HO200 := n1_
                    have HO203 := n2_
                    have HO_5 := n3_
                    have BK194 := n4_
                    have HB := n5_
                    clear n0_ n1_ n2_ n3_ n4_ n5_
                    have hHeld : w25.cell? ⟨gb194, 0, none⟩ = some (.string (((rd_T52 l0 x6_1).f0).extract 0 ((ji5) : Int).toNat)) ∧ w25.cell? ⟨gb194, 1, none⟩ = some (.int .i64 ((rd_T52 l0 x6_1).f1)) ∧ w25.cell? ⟨gb194, 2, none⟩ = some (.bool ((rd_T52 l0 x6_1).f2)) := hS_
                    obtain ⟨Ao27, co27, eo27⟩ := Kd.R_slice HO203.out
                    (first | subst eo27 | (injection eo27 with f1_ f2_ f3_; have f4_ := f1_.symm; have f5_ := f3_.symm; clear f1_ f2_ f3_; subst f4_; subst f5_))
                    refine norm_ (a' := ?_) ?_ ?_
                    rotate_left
                    · simp only [putAll, Act.put, List.setIfInBounds_toArray, List.set_cons_zero, List.set_cons_succ]
                      rfl
                    refine one_ (i := 7) (N := some 49) #[true, true, true, true, true, true, true, true, false, false] rfl rfl (one_of HT_.out (by kernel_rfl)) (by decide) (fun K hK => ?_)
                    refine Kd.R_append_rows_step k40 (w0 := w) w.heap.size (by rfl) (.tmp 46) (.tmp 48) 25 40 (.agg #[(.string ⟨#[]⟩), (.int .i64 0), (.bool false)]) 32 rfl Try.underlying25 info40 rfl (by decide) (by omega) (.slice Ao16 x5_1.length co16) x5_1 y201 _ _ _ (fun k_ => some k_ ≠ (.slice Ao27 y201.length co27 : Value).ownBlock) (fun _ => False) rfl rfl ?aO ?aR (fun _ _ h => h) (fun _ h => h.elim) ?aF ?aB ?aS ?aL ?_
                    (case aR => repeat (first | exact (Kd.R_reads' HO203.out).2.2 | (with_reducible refine Kd.C_alloc ?_ _) | (with_reducible refine Kd.C_drewN ?_ _) | (with_reducible refine Kd.C_drew ?_)))
                    (case aB => exact (by repeat (first | (with_reducible first | exact HB.out | apply below_alloc | apply pw_below_drewN | apply below_drew1 | refine below_set ?_ GE194.out) | exact HB.out)))
                    (case aF => exact (fun k_ hk => Kd.fresh' (Kd.R_lt (by (with_reducible repeat (first | apply Kd.R_alloc | apply Kd.R_drewN | apply Kd.R_drew)); exact HO203.out)) k_ hk))
                    (case aO => exact (by (with_reducible repeat (first | apply Kd.R_alloc | apply Kd.R_drewN | apply Kd.R_drew)); exact HO_5.out))
                    (case aS => exact (below_size (by repeat (first | (with_reducible first | exact HB.out | apply below_alloc | apply pw_below_drewN | apply below_drew1 | refine below_set ?_ GE194.out) | exact HB.out))))
                    (case aL => have := LMc9.out; omega)
                    intro v205 w26 ho hb hg hat
                    rw [← Ny204.out] at ho
                    have n0_ := Aside0.mk (blk_grown (g := gb194) (o := .cells #[.string (((rd_T52 l0 x6_1).f0).extract 0 ((ji5) : Int).toNat), .int .i64 ((rd_T52 l0 x6_1).f1), .bool ((rd_T52 l0 x6_1).f2)] 52 (0, 0)) (by (with_reducible repeat (first | refine blk_drewN ?_ _ | refine blk_drew ?_ | refine blk_alloc ?_ _)); exact BK194.out) hg (Kd.R_ne HO_5.out BK194.out (by decide)))
                    have n1_ := Aside0.mk (Kd.R_over' (by (with_reducible repeat (first | apply Kd.R_alloc | apply Kd.R_drewN | apply Kd.R_drew)); exact HO197.out) (Kd.R_typed (by (with_reducible repeat (first | apply Kd.R_alloc | apply Kd.R_drewN | apply Kd.R_drew)); exact HO_5.out)) (by decide) hg)
                    have n2_ := Aside0.mk (Kd.R_over' (by (with_reducible repeat (first | apply Kd.R_alloc | apply Kd.R_drewN | apply Kd.R_drew)); exact HO200.out) (Kd.R_typed (by (with_reducible repeat (first | apply Kd.R_alloc | apply Kd.R_drewN | apply Kd.R_drew)); exact HO_5.out)) (by decide) hg)
                    have n3_ := Aside0.mk (Kd.R_after (ok := (fun _ => True)) (by (with_reducible repeat (first | apply Kd.R_alloc | apply Kd.R_drewN | apply Kd.R_drew)); exact Kd.R_mono HO203.out (fun _ hk => ⟨trivial, hk⟩)) hg hat)
                    have n4_ := Aside0.mk (hb)
                    have n5_ := Aside0.mk (ho)
                    clear BK194
                    clear HO197
                    clear HO200
                    clear HO203
                    clear HB
                    clear HO_5
                    have BK194 := n0_
                    have HO197 := n1_
                    have HO200 := n2_
                    have HO203 := n3_
                    have HB := n4_
                    have HO206 := n5_
                    clear n0_ n1_ n2_ n3_ n4_ n5_
                    clear ho hb hg hat
                    refine hK.out _ _ ⟨(blk_cell BK194.out 0).trans rfl, (blk_cell BK194.out 1).trans rfl, (blk_cell BK194.out 2).trans rfl⟩ (fun hHeld => ?_)
                    clear hK K
                    refine norm_ (a' := ?_) ?_ ?_
                    rotate_left
                    · show Act.put _ (some 49) _ = _
                      simp only [Act.put, List.setIfInBounds_toArray, List.set_cons_zero, List.set_cons_succ, i64_w, i32_w]
                      rfl
                    refine pure_ (i := 8) (N := some 4) (v := ?_) (a' := ?_) #[true, true, true, true, true, true, true, true, true, false] rfl rfl (any_of HT_.out (by kernel_rfl)) (fun _ _ _ h => h) (Or.inl ⟨by rfl, ?_⟩) ?_ ?_
                    rotate_left
                    · intro w'
                      go_simp
                      with_reducible rfl
                    rotate_left
                    · simp only [Act.put, List.setIfInBounds_toArray, List.set_cons_zero, List.set_cons_succ, i64_w, i32_w]
                      rfl
                    refine pure_ (i := 9) (N := some 5) (v := ?_) (a' := ?_) #[true, true, true, true, true, true, true, true, true, true] rfl rfl (any_of HT_.out (by kernel_rfl)) (fun _ _ _ h => h) (Or.inl ⟨by rfl, ?_⟩) ?_ ?_
                    rotate_left
                    · intro w'
                      go_simp
                      with_reducible rfl
                    rotate_left
                    · simp only [Act.put, List.setIfInBounds_toArray, List.set_cons_zero, List.set_cons_succ, i64_w, i32_w]
                      rfl
                    refine done_ (done_of HT_.out (by kernel_rfl)) ?_
                    try go_wp2
                    go_roundg k1
                    case measure => have := HK1.out; omega
                    case rel => exact ⟨(y198), (y204), (wrap64 (x6_1 + 1)), (by first | rfl | (simp; done) | (simp [MyBase.ne_nil]; done) | (simp [*]; done)), H', ⟨by have := HK1.out; omega⟩, ⟨by (with_reducible repeat (first | apply Kd.R_alloc | apply Kd.R_drewN | apply Kd.R_drew)); exact Kd.R_mono HO200.out (fun _ hk => trivial)⟩, ⟨by (with_reducible repeat (first | apply Kd.R_alloc | apply Kd.R_drewN | apply Kd.R_drew)); exact Kd.R_mono HO206.out (fun _ hk => trivial)⟩, ⟨by repeat (first | (with_reducible first | exact HB.out | apply below_alloc | apply pw_below_drewN | apply below_drew1 | refine below_set ?_ GE194.out) | exact HB.out)⟩⟩
                  · rw [if_neg c9] at H
                    exact absurd H (by simp)
                · rw [if_neg c8] at H
                  exact absurd H (by simp)
              · rw [if_neg c7] at H
                exact absurd H (by simp)
            · rw [if_neg c6] at H
              exact absurd H (by simp)
          · rw [if_neg c4] at H
            exact absurd H (by simp)
        · rw [if_neg c3] at H
          have c3b0 : decide (x6_1 < 10) = false := decide_eq_false c3
          clear c3
          simp only [Option.some.injEq, Prod.mk.injEq] at H
          obtain ⟨rfl, rfl⟩ := H
          go_wp2
          go_ret2
          exact ⟨_, _, by first | rfl | (simp [errW_none, errW_some] <;> rfl) | (simp [*, errW_none, errW_some] <;> rfl), by (with_reducible repeat (first | apply Kd.R_alloc | apply Kd.R_drewN | apply Kd.R_drew)); exact HO_4.out, by (with_reducible repeat (first | apply Kd.R_alloc | apply Kd.R_drewN | apply Kd.R_drew)); exact HO_5.out, by repeat (first | (with_reducible first | exact HB.out | apply below_alloc | apply pw_below_drewN | apply below_drew1) | exact HB.out)⟩
      · rw [if_neg c2] at H
        have c2b0 : decide (x6_1 < (l0.length : Int)) = false := decide_eq_false c2
        clear c2
        simp only [Option.some.injEq, Prod.mk.injEq] at H
        obtain ⟨rfl, rfl⟩ := H
        go_wp2
        go_ret2
        exact ⟨_, _, by first | rfl | (simp [errW_none, errW_some] <;> rfl) | (simp [*, errW_none, errW_some] <;> rfl), by (with_reducible repeat (first | apply Kd.R_alloc | apply Kd.R_drewN | apply Kd.R_drew)); exact HO_4.out, by (with_reducible repeat (first | apply Kd.R_alloc | apply Kd.R_drewN | apply Kd.R_drew)); exact HO_5.out, by repeat (first | (with_reducible first | exact HB.out | apply below_alloc | apply pw_below_drewN | apply below_drew1) | exact HB.out)⟩

end Go.Proofs.Ytojelhacelfjkaa.PA

-- Written by a program of this seat out of the translation; Lean checks it.
import Derived.Test.YtojelhacelfjkaaPAx0
namespace Go.Proofs.Ytojelhacelfjkaa.PA
open Go.RowKit Go.Proofs.YtojelhacelfjkaaW.PrintWords Go.Proofs.YtojelhacelfjkaaW.PrintLast Go.Proofs.YtojelhacelfjkaaW.PrintMore
attribute [local go_sem] MyBase.max0 max2_int min2_int max_two min_two max_three min_three max_four min_four   -- for this text's walks alone
set_option linter.unusedVariables false
set_option linter.unusedSimpArgs false

/-! ### concordanceref01_Get: function 15 -/
mutual
def concordanceref01_Get.l0 : Nat → ByteArray → List (S40) → Int → Option ((List (S40)) × Int)
  | 0, _, _, _ => none
  | k + 1, x0, x4, x5 => if x5 < (x0.size : Int) then (if 0 ≤ x5 then (if (bt x0 x5) = 16 then (if (wrap64 ((x0.size : Int) - x5)) < 7 then (some (([] : List (S40)), 3)) else (concordanceref01_Get.l1 k x0 x4 x5 0 1 (⟨#[]⟩ : ByteArray) 0 false)) else (if (bt x0 x5) = 32 then (concordanceref01_Get.l2 k x0 x4 (wrap64 (x5 + 1)) false (⟨#[]⟩ : ByteArray) 0 true) else (some (([] : List (S40)), 2)))) else (none)) else (some (x4, 0))
def concordanceref01_Get.l1 : Nat → ByteArray → List (S40) → Int → Int → Int → ByteArray → Int → Bool → Option ((List (S40)) × Int)
  | 0, _, _, _, _, _, _, _, _ => none
  | k + 1, x0, x4, x5, x7, x8, x232000, x232001, x232002 => if x8 < 7 then (if 0 ≤ (wrap64 (x5 + x8)) then (if (wrap64 (x5 + x8)) < (x0.size : Int) then (concordanceref01_Get.l1 k x0 x4 x5 (wrap64 ((wrap64 (256 * x7)) + (wrap64 (bt x0 (wrap64 (x5 + x8)))))) (wrap64 (x8 + 1)) x232000 x232001 x232002) else (none)) else (none)) else (if x7 > 2199023255552 then (some (([] : List (S40)), 2)) else (if x4.length < 4398046511104 then (concordanceref01_Get.l0 k x0 (x4 ++ [(⟨x232000, wrap64 (x7 - 1099511627776), x232002⟩ : S40)]) (wrap64 (x5 + 7))) else (none)))
def concordanceref01_Get.l2 : Nat → ByteArray → List (S40) → Int → Bool → ByteArray → Int → Bool → Option ((List (S40)) × Int)
  | 0, _, _, _, _, _, _, _ => none
  | k + 1, x0, x4, x5, x9, x232000, x232001, x232002 => if x9 = true then (if (x232000.size : Int) > 20 then (some (([] : List (S40)), 6)) else (if x4.length < 4398046511104 then (concordanceref01_Get.l0 k x0 (x4 ++ [(⟨x232000, x232001, x232002⟩ : S40)]) x5) else (none))) else (if x5 ≥ (x0.size : Int) then (concordanceref01_Get.j3 k x0 x4 x5 x9 true x232000 x232001 x232002) else (if 0 ≤ x5 then (if x5 < (x0.size : Int) then (if (bt x0 x5) = 0 then (concordanceref01_Get.j3 k x0 x4 x5 x9 (decide ((wrap64 (x5 + 1)) ≥ (x0.size : Int))) x232000 x232001 x232002) else (concordanceref01_Get.j3 k x0 x4 x5 x9 false x232000 x232001 x232002)) else (none)) else (none)))
def concordanceref01_Get.j3 : Nat → ByteArray → List (S40) → Int → Bool → Bool → ByteArray → Int → Bool → Option ((List (S40)) × Int)
  | 0, _, _, _, _, _, _, _, _ => none
  | k + 1, x0, x4, x5, x9, x69, x232000, x232001, x232002 => if x69 = true then (some (([] : List (S40)), 3)) else (if 0 ≤ x5 then (if x5 < (x0.size : Int) then (if (bt x0 x5) = 0 then (if 0 ≤ (wrap64 (x5 + 1)) then (if (wrap64 (x5 + 1)) < (x0.size : Int) then (if (bt x0 (wrap64 (x5 + 1))) = 255 then (if x232000.size + 1 ≤ 9223372036854775807 then (concordanceref01_Get.l2 k x0 x4 (wrap64 (x5 + 2)) x9 (x232000 ++ (⟨#[0]⟩ : ByteArray)) x232001 x232002) else (none)) else (if (bt x0 (wrap64 (x5 + 1))) = 1 then (concordanceref01_Get.l2 k x0 x4 (wrap64 (x5 + 2)) true x232000 x232001 x232002) else (some (([] : List (S40)), 2)))) else (none)) else (none)) else (if x5 ≤ (wrap64 (x5 + 1)) then (if (wrap64 (x5 + 1)) ≤ (x0.size : Int) then (if x232000.size + (x0.extract (x5 : Int).toNat ((wrap64 (x5 + 1)) : Int).toNat).size ≤ 9223372036854775807 then (concordanceref01_Get.l2 k x0 x4 (wrap64 (x5 + 1)) x9 (x232000 ++ (x0.extract (x5 : Int).toNat ((wrap64 (x5 + 1)) : Int).toNat)) x232001 x232002) else (none)) else (none)) else (none))) else (none)) else (none))
end
def concordanceref01_Get.f (k : Nat) (a0 : ByteArray) : Option ((List (S40)) × Int) := concordanceref01_Get.l0 k a0 ([] : List (S40)) 0
theorem concordanceref01_Get.mono_l : ∀ k, (∀ y0 y1 y2, LeO (concordanceref01_Get.l0 k y0 y1 y2) (concordanceref01_Get.l0 (k + 1) y0 y1 y2)) ∧ (∀ y0 y1 y2 y3 y4 y5 y6 y7, LeO (concordanceref01_Get.l1 k y0 y1 y2 y3 y4 y5 y6 y7) (concordanceref01_Get.l1 (k + 1) y0 y1 y2 y3 y4 y5 y6 y7)) ∧ (∀ y0 y1 y2 y3 y4 y5 y6, LeO (concordanceref01_Get.l2 k y0 y1 y2 y3 y4 y5 y6) (concordanceref01_Get.l2 (k + 1) y0 y1 y2 y3 y4 y5 y6)) ∧ (∀ y0 y1 y2 y3 y4 y5 y6 y7, LeO (concordanceref01_Get.j3 k y0 y1 y2 y3 y4 y5 y6 y7) (concordanceref01_Get.j3 (k + 1) y0 y1 y2 y3 y4 y5 y6 y7))
  | 0 => ⟨fun _ _ _ r h => by simp [concordanceref01_Get.l0] at h, fun _ _ _ _ _ _ _ _ r h => by simp [concordanceref01_Get.l1] at h, fun _ _ _ _ _ _ _ r h => by simp [concordanceref01_Get.l2] at h, fun _ _ _ _ _ _ _ _ r h => by simp [concordanceref01_Get.j3] at h⟩
  | k + 1 => by
    obtain ⟨ih0, ih1, ih2, ih3⟩ := concordanceref01_Get.mono_l k
    refine ⟨?_, ?_, ?_, ?_⟩
    · intro y0 y1 y2
      unfold concordanceref01_Get.l0
      repeat' first
      | (with_reducible exact ih0 _ _ _)
      | (with_reducible exact ih1 _ _ _ _ _ _ _ _)
      | (with_reducible exact ih2 _ _ _ _ _ _ _)
      | (with_reducible exact ih3 _ _ _ _ _ _ _ _)
      | (with_reducible exact LeO.refl _)
      | (with_reducible exact LeO.none _)
      | (with_reducible refine LeO.ite ?_ ?_)
      | (with_reducible refine LeO.bind ?_ (fun _ => ?_))
      | exact ih0 _ _ _
      | exact ih1 _ _ _ _ _ _ _ _
      | exact ih2 _ _ _ _ _ _ _
      | exact ih3 _ _ _ _ _ _ _ _
      | exact LeO.none _
      | refine LeO.ite ?_ ?_
      | refine LeO.bind ?_ (fun _ => ?_)
    · intro y0 y1 y2 y3 y4 y5 y6 y7
      unfold concordanceref01_Get.l1
      repeat' first
      | (with_reducible exact ih0 _ _ _)
      | (with_reducible exact ih1 _ _ _ _ _ _ _ _)
      | (with_reducible exact ih2 _ _ _ _ _ _ _)
      | (with_reducible exact ih3 _ _ _ _ _ _ _ _)
      | (with_reducible exact LeO.refl _)
      | (with_reducible exact LeO.none _)
      | (with_reducible refine LeO.ite ?_ ?_)
      | (with_reducible refine LeO.bind ?_ (fun _ => ?_))
      | exact ih0 _ _ _
      | exact ih1 _ _ _ _ _ _ _ _
      | exact ih2 _ _ _ _ _ _ _
      | exact ih3 _ _ _ _ _ _ _ _
      | exact LeO.none _
      | refine LeO.ite ?_ ?_
      | refine LeO.bind ?_ (fun _ => ?_)
    · intro y0 y1 y2 y3 y4 y5 y6
      unfold concordanceref01_Get.l2
      repeat' first
      | (with_reducible exact ih0 _ _ _)
      | (with_reducible exact ih1 _ _ _ _ _ _ _ _)
      | (with_reducible exact ih2 _ _ _ _ _ _ _)
      | (with_reducible exact ih3 _ _ _ _ _ _ _ _)
      | (with_reducible exact LeO.refl _)
      | (with_reducible exact LeO.none _)
      | (with_reducible refine LeO.ite ?_ ?_)
      | (with_reducible refine LeO.bind ?_ (fun _ => ?_))
      | exact ih0 _ _ _
      | exact ih1 _ _ _ _ _ _ _ _
      | exact ih2 _ _ _ _ _ _ _
      | exact ih3 _ _ _ _ _ _ _ _
      | exact LeO.none _
      | refine LeO.ite ?_ ?_
      | refine LeO.bind ?_ (fun _ => ?_)
    · intro y0 y1 y2 y3 y4 y5 y6 y7
      unfold concordanceref01_Get.j3
      repeat' first
      | (with_reducible exact ih0 _ _ _)
      | (with_reducible exact ih1 _ _ _ _ _ _ _ _)
      | (with_reducible exact ih2 _ _ _ _ _ _ _)
      | (with_reducible exact ih3 _ _ _ _ _ _ _ _)
      | (with_reducible exact LeO.refl _)
      | (with_reducible exact LeO.none _)
      | (with_reducible refine LeO.ite ?_ ?_)
      | (with_reducible refine LeO.bind ?_ (fun _ => ?_))
      | exact ih0 _ _ _
      | exact ih1 _ _ _ _ _ _ _ _
      | exact ih2 _ _ _ _ _ _ _
      | exact ih3 _ _ _ _ _ _ _ _
      | exact LeO.none _
      | refine LeO.ite ?_ ?_
      | refine LeO.bind ?_ (fun _ => ?_)
theorem concordanceref01_Get.mono : ∀ a0 k, LeO (concordanceref01_Get.f k a0) (concordanceref01_Get.f (k + 1) a0) := by
  intro a0 k
  obtain ⟨ih0, ih1, ih2, ih3⟩ := concordanceref01_Get.mono_l k
  unfold concordanceref01_Get.f
  repeat' first
      | (with_reducible exact ih0 _ _ _)
      | (with_reducible exact ih1 _ _ _ _ _ _ _ _)
      | (with_reducible exact ih2 _ _ _ _ _ _ _)
      | (with_reducible exact ih3 _ _ _ _ _ _ _ _)
      | (with_reducible exact LeO.refl _)
      | (with_reducible exact LeO.none _)
      | (with_reducible refine LeO.ite ?_ ?_)
      | (with_reducible refine LeO.bind ?_ (fun _ => ?_))
      | exact ih0 _ _ _
      | exact ih1 _ _ _ _ _ _ _ _
      | exact ih2 _ _ _ _ _ _ _
      | exact ih3 _ _ _ _ _ _ _ _
      | exact LeO.none _
      | refine LeO.ite ?_ ?_
      | refine LeO.bind ?_ (fun _ => ?_)
def concordanceref01_Get.T25 : Bool × List (List Nat × List Nat) := (true, [([], []), ([0], [0]), ([], []), ([], []), ([], []), ([4], [4]), ([2, 3, 5], [2, 3, 5]), ([1, 6], [1, 6]), ([0, 1, 2, 3, 4, 5, 6, 7], []), ([8, 7, 0, 1, 2, 3, 4, 5, 6, 7], [7, 8])])
def concordanceref01_Get.B25 : List Nat := [0, 1, 0, 0, 0, 16, 60, 127, 255, 511]
theorem concordanceref01_Get.tab25 : rtab .any (opsOf Try.f15 25) = concordanceref01_Get.T25 := by kernel_rfl
theorem concordanceref01_Get.bits25 : waitsOk concordanceref01_Get.T25.2 concordanceref01_Get.B25 = true := by kernel_rfl
set_option maxHeartbeats 8000000 in
set_option maxRecDepth 100000 in
theorem concordanceref01_Get.calls (k : Nat) (a0 : ByteArray) (r1 : List (S40)) (r2 : Int) (w : World) (h : concordanceref01_Get.f k a0 = some (r1, r2)) :
    Calls Try.prog 15 #[.string a0] w fun e w' => ∃ v0_ : Value, e = .returned (.tuple #[v0_, .int .i64 r2]) ∧ Kd.R k40 40 w' w.heap.size (fun _ => True) v0_ r1 ∧ Below w.heap.size w w' := by
  have hu40 := Try.underlying40
  have HB := Aside0.mk (Below.refl w.heap.size w)
  have H : (concordanceref01_Get.l0 k a0 ([] : List (S40)) 0) = some (r1, r2) := h
  clear h
  have H' := Aside0.mk H
  clear H
  go_enter Try.func15, Try.ntmps15
  go_wp2
  go_loopg [4, 5] k (fun kq v4 v5 w' => ∃ (x4_1 : List (S40)) (x5_1 : Int), v5 = .int .i64 x5_1 ∧ Aside0 (concordanceref01_Get.l0 kq a0 x4_1 x5_1 = some (r1, r2)) ∧ Aside0 (kq ≤ k) ∧ Aside0 (Kd.R k40 40 w' w.heap.size (fun _ => True) v4 x4_1) ∧ Aside0 (Below w.heap.size w w'))
  case atStart => exact ⟨(([] : List (S40))), (0), (by first | rfl | (simp; done) | (simp [MyBase.ne_nil]; done) | (simp [*]; done)), H', ⟨Nat.le_refl _⟩, ⟨by first | exact Kd.R_nil _ _ _ _ _ | exact Kd.N_nil _ _ _ _ _ | exact Kd.V_nil _ _ _ _ _ | exact Kd.Q_nil _ _ _ _ _ | exact Kd.S_nil _ _ _ _ _⟩, ⟨by repeat (first | (with_reducible first | exact HB.out | apply below_alloc | apply pw_below_drewN | apply below_drew1) | exact HB.out)⟩⟩
  case round =>
    clear H'
    try clear c1
    obtain ⟨x4_1, x5_1, rfl, HA, HK1, HO_4, HB⟩ := hrel
    cases gk with
    | zero => exact absurd HA.out (by simp [concordanceref01_Get.l0])
    | succ k1 =>
      have H := HA.out
      clear HA
      simp only [concordanceref01_Get.l0] at H
      by_cases c2 : x5_1 < (a0.size : Int)
      · rw [if_pos c2] at H
        have c2b0 : decide (x5_1 < (a0.size : Int)) = true := decide_eq_true c2
        clear c2
        by_cases c3 : 0 ≤ x5_1
        · rw [if_pos c3] at H
          have c3b0 : decide (0 ≤ x5_1) = true := decide_eq_true c3
          clear c3
          by_cases c5 : (bt a0 x5_1) = 16
          · rw [if_pos c5] at H
            have c5b0 : ((bt a0 x5_1) == 16) = true := beq_iff_eq.mpr c5
            have c5b1 : ((bt a0 x5_1) != 16) = false := bne_eq_false_iff_eq.mpr c5
            clear c5
            by_cases c6 : (wrap64 ((a0.size : Int) - x5_1)) < 7
            · rw [if_pos c6] at H
              have c6b0 : decide ((wrap64 ((a0.size : Int) - x5_1)) < 7) = true := decide_eq_true c6
              clear c6
              simp only [Option.some.injEq, Prod.mk.injEq] at H
              obtain ⟨rfl, rfl⟩ := H
              go_wp2_with (first | ((with_reducible refine gate_dst (N := 6) rfl ?_); (try (refine gate_guard (by rfl) ?_; dsimp only)); refine box_event ?hg (N := 6) ?hd (cs := #[.string (⟨#[]⟩ : ByteArray), .int .i64 0, .bool false]) (t := 40) ?hr ?_; (case hd => rfl); (case hg => rfl); (case hr => first | (go_simp; done) | (go_simp; rfl)); intro gb231 hg w7 hbox hb; have n0_ := Aside0.mk (Kd.R_below (Kd.R_elderB (by (with_reducible repeat (first | apply Kd.R_alloc | apply Kd.R_drewN | apply Kd.R_drew)); exact HO_4.out) gb231 (Nat.le_of_eq hg.symm)) hb); have n1_ := Aside0.mk (below_step (by repeat (first | (with_reducible first | exact HB.out | apply below_alloc | apply pw_below_drewN | apply below_drew1) | exact HB.out)) hb); have n2_ := Aside0.mk (hbox); have n3_ := Aside0.mk ((by rw [hg]; exact (below_size (by repeat (first | (with_reducible first | exact HB.out | apply below_alloc | apply pw_below_drewN | apply below_drew1) | exact HB.out))) : w.heap.size ≤ gb231)); have n4_ := Aside0.mk ((by rw [hg]; exact (below_size (by repeat (first | (with_reducible first | exact HB.out | apply below_alloc | apply pw_below_drewN | apply below_drew1) | exact HB.out))) : w.heap.size ≤ gb231)); clear HO_4; clear HB; have HO_4 := n0_; have HB := n1_; have BK231 := n2_; have GW231 := n3_; have GE231 := n4_; clear n0_ n1_ n2_ n3_ n4_; clear hb hbox hg; have hcz8_0 : w7.cell? ⟨gb231, 0, none⟩ = some (.string (⟨#[]⟩ : ByteArray)) := (blk_cell BK231.out 0).trans rfl; have hcz8_1 : w7.cell? ⟨gb231, 1, none⟩ = some (.int .i64 0) := (blk_cell BK231.out 1).trans rfl; have hcz8_2 : w7.cell? ⟨gb231, 2, none⟩ = some (.bool false) := (blk_cell BK231.out 2).trans rfl; have hfz8_0 := blk_frozen BK231.out 0; have hfz8_1 := blk_frozen BK231.out 1; have hfz8_2 := blk_frozen BK231.out 2; have p4 : 0 ≤ (x5_1 : Int) := of_decide_eq_true (by first | (with_reducible assumption) | assumption); have q4 : x5_1 < (a0.size : Int) := of_decide_eq_true (by first | (with_reducible assumption) | assumption); have hx4 := bt_at a0 x5_1; replace p4 := eq_true p4; replace q4 := eq_true q4))
              go_ret2
              exact ⟨_, by first | rfl | (simp [errW_none, errW_some] <;> rfl) | (simp [*, errW_none, errW_some] <;> rfl), by first | exact Kd.R_nil _ _ _ _ _ | exact Kd.N_nil _ _ _ _ _ | exact Kd.V_nil _ _ _ _ _ | exact Kd.Q_nil _ _ _ _ _ | exact Kd.S_nil _ _ _ _ _, by repeat (first | (with_reducible first | exact HB.out | apply below_alloc | apply pw_below_drewN | apply below_drew1 | refine below_set ?_ GE231.out) | exact HB.out)⟩
            · rw [if_neg c6] at H
              have c6b0 : decide ((wrap64 ((a0.size : Int) - x5_1)) < 7) = false := decide_eq_false c6
              clear c6
              have H' := Aside0.mk H
              clear H
              go_wp2_with (first | ((with_reducible refine gate_dst (N := 6) rfl ?_); (try (refine gate_guard (by rfl) ?_; dsimp only)); refine box_event ?hg (N := 6) ?hd (cs := #[.string (⟨#[]⟩ : ByteArray), .int .i64 0, .bool false]) (t := 40) ?hr ?_; (case hd => rfl); (case hg => rfl); (case hr => first | (go_simp; done) | (go_simp; rfl)); intro gb231 hg w9 hbox hb; have n0_ := Aside0.mk (Kd.R_below (Kd.R_elderB (by (with_reducible repeat (first | apply Kd.R_alloc | apply Kd.R_drewN | apply Kd.R_drew)); exact HO_4.out) gb231 (Nat.le_of_eq hg.symm)) hb); have n1_ := Aside0.mk (below_step (by repeat (first | (with_reducible first | exact HB.out | apply below_alloc | apply pw_below_drewN | apply below_drew1) | exact HB.out)) hb); have n2_ := Aside0.mk (hbox); have n3_ := Aside0.mk ((by rw [hg]; exact (below_size (by repeat (first | (with_reducible first | exact HB.out | apply below_alloc | apply pw_below_drewN | apply below_drew1) | exact HB.out))) : w.heap.size ≤ gb231)); have n4_ := Aside0.mk ((by rw [hg]; exact (below_size (by repeat (first | (with_reducible first | exact HB.out | apply below_alloc | apply pw_below_drewN | apply below_drew1) | exact HB.out))) : w.heap.size ≤ gb231)); clear HO_4; clear HB; have HO_4 := n0_; have HB := n1_; have BK231 := n2_; have GW231 := n3_; have GE231 := n4_; clear n0_ n1_ n2_ n3_ n4_; clear hb hbox hg; have hcz10_0 : w9.cell? ⟨gb231, 0, none⟩ = some (.string (⟨#[]⟩ : ByteArray)) := (blk_cell BK231.out 0).trans rfl; have hcz10_1 : w9.cell? ⟨gb231, 1, none⟩ = some (.int .i64 0) := (blk_cell BK231.out 1).trans rfl; have hcz10_2 : w9.cell? ⟨gb231, 2, none⟩ = some (.bool false) := (blk_cell BK231.out 2).trans rfl; have hfz10_0 := blk_frozen BK231.out 0; have hfz10_1 := blk_frozen BK231.out 1; have hfz10_2 := blk_frozen BK231.out 2; have p4 : 0 ≤ (x5_1 : Int) := of_decide_eq_true (by first | (with_reducible assumption) | assumption); have q4 : x5_1 < (a0.size : Int) := of_decide_eq_true (by first | (with_reducible assumption) | assumption); have hx4 := bt_at a0 x5_1; replace p4 := eq_true p4; replace q4 := eq_true q4))
              go_loopg [7, 8] k1 (fun kq v7 v8 w' => ∃ (x7_2 : Int) (x8_2 : Int), v7 = .int .i64 x7_2 ∧ v8 = .int .i64 x8_2 ∧ Aside0 (concordanceref01_Get.l1 kq a0 x4_1 x5_1 x7_2 x8_2 (⟨#[]⟩ : ByteArray) 0 false = some (r1, r2)) ∧ Aside0 (kq ≤ k1) ∧ Aside0 (Kd.R k40 40 w' w.heap.size (fun k_ => k_ ≠ gb231) u4 x4_1) ∧ Aside0 (w'.heap[gb231]? = some (.cells #[.string (⟨#[]⟩ : ByteArray), .int .i64 0, .bool false] 40 (0, 0))) ∧ Aside0 (Below w.heap.size w w'))
              case atStart => exact ⟨(0), (1), (by first | rfl | (simp; done) | (simp [MyBase.ne_nil]; done) | (simp [*]; done)), (by first | rfl | (simp; done) | (simp [MyBase.ne_nil]; done) | (simp [*]; done)), H', ⟨Nat.le_refl _⟩, ⟨by (with_reducible repeat (first | apply Kd.R_alloc | apply Kd.R_drewN | apply Kd.R_drew)); exact Kd.R_mono (Kd.R_far (p := ⟨gb231, 2, none⟩) (Kd.R_far (p := ⟨gb231, 1, none⟩) (Kd.R_far (p := ⟨gb231, 0, none⟩) (Kd.R_mono HO_4.out (fun k_ hk => (⟨hk, hk.2⟩ : _ ∧ k_ ≠ gb231))) (fun _ hk => hk.2) (.string (⟨#[]⟩ : ByteArray))) (fun _ hk => hk.2) (.int .i64 0)) (fun _ hk => hk.2) (.bool false)) (fun _ hk => hk.1.2)⟩, ⟨by (with_reducible repeat (first | refine blk_drewN ?_ _ | refine blk_drew ?_ | refine blk_alloc ?_ _)); refine blk_put (cs := #[.string (⟨#[]⟩ : ByteArray), .int .i64 0, .bool false]) ?_ 2 _ rfl; (with_reducible repeat (first | refine blk_drewN ?_ _ | refine blk_drew ?_ | refine blk_alloc ?_ _)); refine blk_put (cs := #[.string (⟨#[]⟩ : ByteArray), .int .i64 0, .bool false]) ?_ 1 _ rfl; (with_reducible repeat (first | refine blk_drewN ?_ _ | refine blk_drew ?_ | refine blk_alloc ?_ _)); refine blk_put (cs := #[.string (⟨#[]⟩ : ByteArray), .int .i64 0, .bool false]) ?_ 0 _ rfl; (with_reducible repeat (first | refine blk_drewN ?_ _ | refine blk_drew ?_ | refine blk_alloc ?_ _)); exact BK231.out⟩, ⟨by repeat (first | (with_reducible first | exact HB.out | apply below_alloc | apply pw_below_drewN | apply below_drew1 | refine below_set ?_ GE231.out) | exact HB.out)⟩⟩
              case round =>
                clear H'
                try clear c1
                try clear c2
                try clear c2b0
                try clear p2
                try clear c3
                try clear c3b0
                try clear p4
                try clear q4
                try clear hx4
                try clear c5
                try clear c5b0
                try clear c5b1
                try clear c6
                try clear c6b0
                try clear p6
                try clear hcz10_0
                try clear hcz10_1
                try clear hcz10_2
                try clear hcz8_0
                try clear hcz8_1
                try clear hcz8_2
                try clear hfz10_0
                try clear hfz10_1
                try clear hfz10_2
                try clear hfz8_0
                try clear hfz8_1
                try clear hfz8_2
                try clear p4
                try clear q4
                obtain ⟨x7_2, x8_2, rfl, rfl, HA, HK2, HO_4, BK231, HB⟩ := hrel
                cases gk with
                | zero => exact absurd HA.out (by simp [concordanceref01_Get.l1])
                | succ k2 =>
                  have H := HA.out
                  clear HA
                  simp only [concordanceref01_Get.l1] at H
                  by_cases c11 : x8_2 < 7
                  · rw [if_pos c11] at H
                    have c11b0 : decide (x8_2 < 7) = true := decide_eq_true c11
                    clear c11
                    obtain ⟨ji12, hji12⟩ : ∃ j_ : Int, (wrap64 (x5_1 + x8_2)) = j_ := ⟨_, rfl⟩
                    replace H : (if 0 ≤ (ji12) then (if (ji12) < (a0.size : Int) then (concordanceref01_Get.l1 k2 a0 x4_1 x5_1 (wrap64 ((wrap64 (256 * x7_2)) + (wrap64 (bt a0 (ji12))))) (wrap64 (x8_2 + 1)) (⟨#[]⟩ : ByteArray) 0 false) else (none)) else (none)) = some (r1, r2) := by first | (rw [hji12] at H; exact H) | (simp only [hji12] at H ⊢; exact H)
                    have hji12w : (IntKind.i64.wrap (x5_1 + x8_2)) = ji12 := (i64_w _).trans hji12
                    by_cases c13 : 0 ≤ (ji12)
                    · rw [if_pos c13] at H
                      have c13b0 : decide (0 ≤ (ji12)) = true := decide_eq_true c13
                      clear c13
                      by_cases c14 : (ji12) < (a0.size : Int)
                      · rw [if_pos c14] at H
                        have c14b0 : decide ((ji12) < (a0.size : Int)) = true := decide_eq_true c14
                        clear c14
                        have H' := Aside0.mk H
                        clear H
                        have p15 : 0 ≤ ((ji12) : Int) := of_decide_eq_true (by first | (with_reducible assumption) | assumption)
                        have q15 : (ji12) < (a0.size : Int) := of_decide_eq_true (by first | (with_reducible assumption) | assumption)
                        have hx15 := bt_at a0 (ji12)
                        replace p15 := eq_true p15
                        replace q15 := eq_true q15
                        go_wp2
                        go_roundg k2
                        case measure => have := HK1.out; have := HK2.out; omega
                        case rel => exact ⟨(wrap64 ((wrap64 (256 * x7_2)) + (wrap64 (bt a0 (ji12))))), (wrap64 (x8_2 + 1)), (by first | rfl | (simp; done) | (simp only [← hji12] <;> (first | rfl | simp)) | (simp [*]; done)), (by first | rfl | (simp; done) | (simp [MyBase.ne_nil]; done) | (simp [*]; done)), H', ⟨by have := HK1.out; have := HK2.out; omega⟩, ⟨by (with_reducible repeat (first | apply Kd.R_alloc | apply Kd.R_drewN | apply Kd.R_drew)); exact HO_4.out⟩, ⟨by (with_reducible repeat (first | refine blk_drewN ?_ _ | refine blk_drew ?_ | refine blk_alloc ?_ _)); exact BK231.out⟩, ⟨by repeat (first | (with_reducible first | exact HB.out | apply below_alloc | apply pw_below_drewN | apply below_drew1 | refine below_set ?_ GE231.out) | exact HB.out)⟩⟩
                      · rw [if_neg c14] at H
                        exact absurd H (by simp)
                    · rw [if_neg c13] at H
                      exact absurd H (by simp)
                  · rw [if_neg c11] at H
                    have c11b0 : decide (x8_2 < 7) = false := decide_eq_false c11
                    clear c11
                    by_cases c16 : x7_2 > 2199023255552
                    · rw [if_pos c16] at H
                      have c16b0 : decide (2199023255552 < x7_2) = true := decide_eq_true c16
                      clear c16
                      simp only [Option.some.injEq, Prod.mk.injEq] at H
                      obtain ⟨rfl, rfl⟩ := H
                      go_wp2
                      go_ret2
                      exact ⟨_, by first | rfl | (simp [errW_none, errW_some] <;> rfl) | (simp [*, errW_none, errW_some] <;> rfl), by first | exact Kd.R_nil _ _ _ _ _ | exact Kd.N_nil _ _ _ _ _ | exact Kd.V_nil _ _ _ _ _ | exact Kd.Q_nil _ _ _ _ _ | exact Kd.S_nil _ _ _ _ _, by repeat (first | (with_reducible first | exact HB.out | apply below_alloc | apply pw_below_drewN | apply below_drew1 | refine below_set ?_ GE231.out) | exact HB.out)⟩
                    · rw [if_neg c16] at H
                      have c16b0 : decide (2199023255552 < x7_2) = false := decide_eq_false c16
                      clear c16
                      by_cases c17 : x4_1.length < 4398046511104
                      · rw [if_pos c17] at H
                        have LMc17 := Aside0.mk c17
                        clear c17
                        obtain ⟨y232, hy232⟩ : ∃ y_ : List (S40), y_ = (x4_1 ++ [(⟨(⟨#[]⟩ : ByteArray), wrap64 (x7_2 - 1099511627776), false⟩ : S40)]) := ⟨_, rfl⟩
                        replace H : (concordanceref01_Get.l0 k2 a0 y232 (wrap64 (x5_1 + 7))) = some (r1, r2) := by first | (rw [hy232]; with_reducible exact H) | (have H2_ := (Option.bind_some _ _).symm.trans H; rw [hy232]; with_reducible exact H2_) | (have H2_ := (Option.bind_some _ _).symm.trans H; with_reducible exact H2_) | with_reducible exact H | (rw [hy232]; exact H) | exact H
                        have Ny232 := Aside0.mk hy232
                        clear hy232
                        have H' := Aside0.mk H
                        clear H
                        have hcz18_0 : wr.cell? ⟨gb231, 0, none⟩ = some (.string (⟨#[]⟩ : ByteArray)) := (blk_cell BK231.out 0).trans rfl
                        have hcz18_1 : wr.cell? ⟨gb231, 1, none⟩ = some (.int .i64 0) := (blk_cell BK231.out 1).trans rfl
                        have hcz18_2 : wr.cell? ⟨gb231, 2, none⟩ = some (.bool false) := (blk_cell BK231.out 2).trans rfl
                        have hfz18_0 := blk_frozen BK231.out 0
                        have hfz18_1 := blk_frozen BK231.out 1
                        have hfz18_2 := blk_frozen BK231.out 2
                        go_wp2_with (first | ((with_reducible refine gate_builtin (b := .append) (xs := #[.tmp 107, .tmp 109]) rfl ?_); (try (refine gate_guard (by rfl) ?_; dsimp only)); at_builtin; refine Kd.R_append k40 (w0 := w) w.heap.size rfl (.tmp 107) (.tmp 109) 25 40 (.agg #[(.string ⟨#[]⟩), (.int .i64 0), (.bool false)]) 32 rfl Try.underlying25 info40 rfl (by decide) (by omega) u4 x4_1 (⟨(⟨#[]⟩ : ByteArray), wrap64 (x7_2 - 1099511627776), false⟩ : S40) [.string (⟨#[]⟩ : ByteArray), .int .i64 (wrap64 (x7_2 - 1099511627776)), .bool false] (fun k_ => k_ ≠ gb231) (fun _ => False) rfl (by first | (go_simp; done) | (go_simp; rfl)) ?aP (fun _ hk => hk.elim) ?aF ?aO ?aB ?aS ?aL ?_; (case aP => exact k40_mkM _ _ _ (⟨(⟨#[]⟩ : ByteArray), wrap64 (x7_2 - 1099511627776), false⟩ : S40)); (case aB => exact (by repeat (first | (with_reducible first | exact HB.out | apply below_alloc | apply pw_below_drewN | apply below_drew1 | refine below_set ?_ GE231.out) | exact HB.out))); (case aF => exact (fun k_ hk => Kd.freshB (g := gb231) (o := .cells #[.string (⟨#[]⟩ : ByteArray), .int .i64 (wrap64 (x7_2 - 1099511627776)), .bool false] 40 (0, 0)) (by (with_reducible repeat (first | refine blk_drewN ?_ _ | refine blk_drew ?_ | refine blk_alloc ?_ _)); refine blk_put (cs := #[.string (⟨#[]⟩ : ByteArray), .int .i64 0, .bool false]) ?_ 1 _ rfl; (with_reducible repeat (first | refine blk_drewN ?_ _ | refine blk_drew ?_ | refine blk_alloc ?_ _)); exact BK231.out) k_ hk)); (case aO => exact (by (with_reducible repeat (first | apply Kd.R_alloc | apply Kd.R_drewN | apply Kd.R_drew)); exact Kd.R_mono (Kd.R_far (p := ⟨gb231, 1, none⟩) (Kd.R_mono HO_4.out (fun k_ hk => (⟨hk, hk⟩ : _ ∧ k_ ≠ gb231))) (fun _ hk => hk.2) (.int .i64 (wrap64 (x7_2 - 1099511627776)))) (fun _ hk => hk.1))); (case aS => exact (below_size (by repeat (first | (with_reducible first | exact HB.out | apply below_alloc | apply pw_below_drewN | apply below_drew1 | refine below_set ?_ GE231.out) | exact HB.out)))); (case aL => have := LMc17.out; omega); intro v233 w19 ho hb hg hat; rw [← Ny232.out] at ho; have n0_ := Aside0.mk (blk_grown (g := gb231) (o := .cells #[.string (⟨#[]⟩ : ByteArray), .int .i64 (wrap64 (x7_2 - 1099511627776)), .bool false] 40 (0, 0)) (by (with_reducible repeat (first | refine blk_drewN ?_ _ | refine blk_drew ?_ | refine blk_alloc ?_ _)); refine blk_put (cs := #[.string (⟨#[]⟩ : ByteArray), .int .i64 0, .bool false]) ?_ 1 _ rfl; (with_reducible repeat (first | refine blk_drewN ?_ _ | refine blk_drew ?_ | refine blk_alloc ?_ _)); exact BK231.out) hg (Kd.R_away HO_4.out (fun _ hk => hk))); have n1_ := Aside0.mk (hb); have n2_ := Aside0.mk (ho); clear BK231; clear HB; clear HO_4; have BK231 := n0_; have HB := n1_; have HO234 := n2_; clear n0_ n1_ n2_; clear ho hb hg hat))
                        go_roundg k2
                        case measure => have := HK1.out; have := HK2.out; omega
                        case rel => exact ⟨(y232), (wrap64 (x5_1 + 7)), (by first | rfl | (simp; done) | (simp [MyBase.ne_nil]; done) | (simp [*]; done)), H', ⟨by have := HK1.out; have := HK2.out; omega⟩, ⟨by (with_reducible repeat (first | apply Kd.R_alloc | apply Kd.R_drewN | apply Kd.R_drew)); exact Kd.R_mono HO234.out (fun _ hk => trivial)⟩, ⟨by repeat (first | (with_reducible first | exact HB.out | apply below_alloc | apply pw_below_drewN | apply below_drew1 | refine below_set ?_ GE231.out) | exact HB.out)⟩⟩
                      · rw [if_neg c17] at H
                        exact absurd H (by simp)
          · rw [if_neg c5] at H
            have c5b0 : ((bt a0 x5_1) == 16) = false := beq_eq_false_iff_ne.mpr c5
            have c5b1 : ((bt a0 x5_1) != 16) = true := bne_iff_ne.mpr c5
            by_cases c21 : (bt a0 x5_1) = 32
            · rw [if_pos c21] at H
              have c21b0 : ((bt a0 x5_1) == 32) = true := beq_iff_eq.mpr c21
              have c21b1 : ((bt a0 x5_1) != 32) = false := bne_eq_false_iff_eq.mpr c21
              clear c21
              have H' := Aside0.mk H
              clear H
              go_wp2_with (first | ((with_reducible refine gate_dst (N := 6) rfl ?_); (try (refine gate_guard (by rfl) ?_; dsimp only)); refine box_event ?hg (N := 6) ?hd (cs := #[.string (⟨#[]⟩ : ByteArray), .int .i64 0, .bool false]) (t := 40) ?hr ?_; (case hd => rfl); (case hg => rfl); (case hr => first | (go_simp; done) | (go_simp; rfl)); intro gb231 hg w22 hbox hb; have n0_ := Aside0.mk (Kd.R_below (Kd.R_elderB (by (with_reducible repeat (first | apply Kd.R_alloc | apply Kd.R_drewN | apply Kd.R_drew)); exact HO_4.out) gb231 (Nat.le_of_eq hg.symm)) hb); have n1_ := Aside0.mk (below_step (by repeat (first | (with_reducible first | exact HB.out | apply below_alloc | apply pw_below_drewN | apply below_drew1) | exact HB.out)) hb); have n2_ := Aside0.mk (hbox); have n3_ := Aside0.mk ((by rw [hg]; exact (below_size (by repeat (first | (with_reducible first | exact HB.out | apply below_alloc | apply pw_below_drewN | apply below_drew1) | exact HB.out))) : w.heap.size ≤ gb231)); have n4_ := Aside0.mk ((by rw [hg]; exact (below_size (by repeat (first | (with_reducible first | exact HB.out | apply below_alloc | apply pw_below_drewN | apply below_drew1) | exact HB.out))) : w.heap.size ≤ gb231)); clear HO_4; clear HB; have HO_4 := n0_; have HB := n1_; have BK231 := n2_; have GW231 := n3_; have GE231 := n4_; clear n0_ n1_ n2_ n3_ n4_; clear hb hbox hg; have hcz23_0 : w22.cell? ⟨gb231, 0, none⟩ = some (.string (⟨#[]⟩ : ByteArray)) := (blk_cell BK231.out 0).trans rfl; have hcz23_1 : w22.cell? ⟨gb231, 1, none⟩ = some (.int .i64 0) := (blk_cell BK231.out 1).trans rfl; have hcz23_2 : w22.cell? ⟨gb231, 2, none⟩ = some (.bool false) := (blk_cell BK231.out 2).trans rfl; have hfz23_0 := blk_frozen BK231.out 0; have hfz23_1 := blk_frozen BK231.out 1; have hfz23_2 := blk_frozen BK231.out 2; have p4 : 0 ≤ (x5_1 : Int) := of_decide_eq_true (by first | (with_reducible assumption) | assumption); have q4 : x5_1 < (a0.size : Int) := of_decide_eq_true (by first | (with_reducible assumption) | assumption); have hx4 := bt_at a0 x5_1; replace p4 := eq_true p4; replace q4 := eq_true q4; have p20 : 0 ≤ (x5_1 : Int) := of_decide_eq_true (by first | (with_reducible assumption) | assumption); have q20 : x5_1 < (a0.size : Int) := of_decide_eq_true (by first | (with_reducible assumption) | assumption); have hx20 := bt_at a0 x5_1; replace p20 := eq_true p20; replace q20 := eq_true q20))
              go_loopg [5, 9] k1 (fun kq v5 v9 w' => ∃ (x5_2 : Int) (x9_2 : Bool) (x232000_2 : ByteArray), v5 = .int .i64 x5_2 ∧ v9 = .bool x9_2 ∧ Aside0 (concordanceref01_Get.l2 kq a0 x4_1 x5_2 x9_2 x232000_2 0 true = some (r1, r2)) ∧ Aside0 (kq ≤ k1) ∧ Aside0 (Kd.R k40 40 w' w.heap.size (fun k_ => k_ ≠ gb231) u4 x4_1) ∧ Aside0 (w'.heap[gb231]? = some (.cells #[.string x232000_2, .int .i64 0, .bool true] 40 (0, 0))) ∧ Aside0 (Below w.heap.size w w'))
              case atStart => exact ⟨(wrap64 (x5_1 + 1)), (false), ((⟨#[]⟩ : ByteArray)), (by first | rfl | (simp; done) | (simp [MyBase.ne_nil]; done) | (simp [*]; done)), (by first | rfl | (simp; done) | (simp [MyBase.ne_nil]; done) | (simp [*]; done)), H', ⟨Nat.le_refl _⟩, ⟨by (with_reducible repeat (first | apply Kd.R_alloc | apply Kd.R_drewN | apply Kd.R_drew)); exact Kd.R_mono (Kd.R_far (p := ⟨gb231, 2, none⟩) (Kd.R_far (p := ⟨gb231, 2, none⟩) (Kd.R_far (p := ⟨gb231, 1, none⟩) (Kd.R_far (p := ⟨gb231, 0, none⟩) (Kd.R_mono HO_4.out (fun k_ hk => (⟨hk, hk.2⟩ : _ ∧ k_ ≠ gb231))) (fun _ hk => hk.2) (.string (⟨#[]⟩ : ByteArray))) (fun _ hk => hk.2) (.int .i64 0)) (fun _ hk => hk.2) (.bool false)) (fun _ hk => hk.2) (.bool true)) (fun _ hk => hk.1.2)⟩, ⟨by (with_reducible repeat (first | refine blk_drewN ?_ _ | refine blk_drew ?_ | refine blk_alloc ?_ _)); refine blk_put (cs := #[.string (⟨#[]⟩ : ByteArray), .int .i64 0, .bool false]) ?_ 2 _ rfl; (with_reducible repeat (first | refine blk_drewN ?_ _ | refine blk_drew ?_ | refine blk_alloc ?_ _)); refine blk_put (cs := #[.string (⟨#[]⟩ : ByteArray), .int .i64 0, .bool false]) ?_ 2 _ rfl; (with_reducible repeat (first | refine blk_drewN ?_ _ | refine blk_drew ?_ | refine blk_alloc ?_ _)); refine blk_put (cs := #[.string (⟨#[]⟩ : ByteArray), .int .i64 0, .bool false]) ?_ 1 _ rfl; (with_reducible repeat (first | refine blk_drewN ?_ _ | refine blk_drew ?_ | refine blk_alloc ?_ _)); refine blk_put (cs := #[.string (⟨#[]⟩ : ByteArray), .int .i64 0, .bool false]) ?_ 0 _ rfl; (with_reducible repeat (first | refine blk_drewN ?_ _ | refine blk_drew ?_ | refine blk_alloc ?_ _)); exact BK231.out⟩, ⟨by repeat (first | (with_reducible first | exact HB.out | apply below_alloc | apply pw_below_drewN | apply below_drew1 | refine below_set ?_ GE231.out) | exact HB.out)⟩⟩
              case round =>
                clear H'
                try clear c1
                try clear p1
                try clear q1
                try clear hx1
                try clear c2
                try clear c2b0
                try clear p2
                try clear q2
                try clear hx2
                try clear c3
                try clear c3b0
                try clear p4
                try clear q4
                try clear hx4
                try clear c5
                try clear c5b0
                try clear c5b1
                try clear c6
                try clear c6b0
                try clear p6
                try clear c11
                try clear c11b0
                try clear c13
                try clear c13b0
                try clear c14
                try clear c14b0
                try clear c15
                try clear p15
                try clear q15
                try clear hx15
                try clear c16
                try clear c16b0
                try clear c17
                try clear p20
                try clear q20
                try clear hx20
                try clear c21
                try clear c21b0
                try clear c21b1
                try clear hcz10_0
                try clear hcz10_1
                try clear hcz10_2
                try clear hcz18_0
                try clear hcz18_1
                try clear hcz18_2
                try clear hcz23_0
                try clear hcz23_1
                try clear hcz23_2
                try clear hcz8_0
                try clear hcz8_1
                try clear hcz8_2
                try clear hfz10_0
                try clear hfz10_1
                try clear hfz10_2
                try clear hfz18_0
                try clear hfz18_1
                try clear hfz18_2
                try clear hfz23_0
                try clear hfz23_1
                try clear hfz23_2
                try clear hfz8_0
                try clear hfz8_1
                try clear hfz8_2
                try clear p15
                try clear p2
                try clear p20
                try clear p4
                try clear p6
                try clear q15
                try clear q20
                try clear q4
                obtain ⟨x5_2, x9_2, x232000_2, rfl, rfl, HA, HK2, HO_4, BK231, HB⟩ := hrel
                cases gk with
                | zero => exact absurd HA.out (by simp [concordanceref01_Get.l2])
                | succ k2 =>
                  have H := HA.out
                  clear HA
                  simp only [concordanceref01_Get.l2] at H
                  by_cases c24 : x9_2 = true
                  · subst c24
                    have H1 : (if (x232000_2.size : Int) > 20 then (some (([] : List (S40)), 6)) else (if x4_1.length < 4398046511104 then (concordanceref01_Get.l0 k2 a0 (x4_1 ++ [(⟨x232000_2, 0, true⟩ : S40)]) x5_2) else (none))) = some (r1, r2) := by rw [if_pos rfl] at H; exact H
                    clear H
                    have H := H1
                    clear H1
                    by_cases c25 : (x232000_2.size : Int) > 20
                    · rw [if_pos c25] at H
                      have c25b0 : decide (20 < (x232000_2.size : Int)) = true := decide_eq_true c25
                      have c25b1 : decide (20 < x232000_2.size) = true := decide_eq_true (by omega)
                      clear c25
                      simp only [Option.some.injEq, Prod.mk.injEq] at H
                      obtain ⟨rfl, rfl⟩ := H
                      have hcz26_0 : wr.cell? ⟨gb231, 0, none⟩ = some (.string x232000_2) := (blk_cell BK231.out 0).trans rfl
                      have hcz26_1 : wr.cell? ⟨gb231, 1, none⟩ = some (.int .i64 0) := (blk_cell BK231.out 1).trans rfl
                      have hcz26_2 : wr.cell? ⟨gb231, 2, none⟩ = some (.bool true) := (blk_cell BK231.out 2).trans rfl
                      have hfz26_0 := blk_frozen BK231.out 0
                      have hfz26_1 := blk_frozen BK231.out 1
                      have hfz26_2 := blk_frozen BK231.out 2
                      go_wp2
                      go_ret2
                      exact ⟨_, by first | rfl | (simp [errW_none, errW_some] <;> rfl) | (simp [*, errW_none, errW_some] <;> rfl), by first | exact Kd.R_nil _ _ _ _ _ | exact Kd.N_nil _ _ _ _ _ | exact Kd.V_nil _ _ _ _ _ | exact Kd.Q_nil _ _ _ _ _ | exact Kd.S_nil _ _ _ _ _, by repeat (first | (with_reducible first | exact HB.out | apply below_alloc | apply pw_below_drewN | apply below_drew1 | refine below_set ?_ GE231.out) | exact HB.out)⟩
                    · rw [if_neg c25] at H
                      have c25b0 : decide (20 < (x232000_2.size : Int)) = false := decide_eq_false c25
                      have c25b1 : decide (20 < x232000_2.size) = false := decide_eq_false (by omega)
                      clear c25
                      by_cases c27 : x4_1.length < 4398046511104
                      · rw [if_pos c27] at H
                        have LMc27 := Aside0.mk c27
                        clear c27
                        obtain ⟨y235, hy235⟩ : ∃ y_ : List (S40), y_ = (x4_1 ++ [(⟨x232000_2, 0, true⟩ : S40)]) := ⟨_, rfl⟩
                        replace H : (concordanceref01_Get.l0 k2 a0 y235 x5_2) = some (r1, r2) := by first | (rw [hy235]; with_reducible exact H) | (have H2_ := (Option.bind_some _ _).symm.trans H; rw [hy235]; with_reducible exact H2_) | (have H2_ := (Option.bind_some _ _).symm.trans H; with_reducible exact H2_) | with_reducible exact H | (rw [hy235]; exact H) | exact H
                        have Ny235 := Aside0.mk hy235
                        clear hy235
                        have H' := Aside0.mk H
                        clear H
                        have hcz28_0 : wr.cell? ⟨gb231, 0, none⟩ = some (.string x232000_2) := (blk_cell BK231.out 0).trans rfl
                        have hcz28_1 : wr.cell? ⟨gb231, 1, none⟩ = some (.int .i64 0) := (blk_cell BK231.out 1).trans rfl
                        have hcz28_2 : wr.cell? ⟨gb231, 2, none⟩ = some (.bool true) := (blk_cell BK231.out 2).trans rfl
                        have hfz28_0 := blk_frozen BK231.out 0
                        have hfz28_1 := blk_frozen BK231.out 1
                        have hfz28_2 := blk_frozen BK231.out 2
                        go_wp2_with (first | ((with_reducible refine gate_builtin (b := .append) (xs := #[.tmp 107, .tmp 109]) rfl ?_); (try (refine gate_guard (by rfl) ?_; dsimp only)); at_builtin; refine Kd.R_append k40 (w0 := w) w.heap.size rfl (.tmp 107) (.tmp 109) 25 40 (.agg #[(.string ⟨#[]⟩), (.int .i64 0), (.bool false)]) 32 rfl Try.underlying25 info40 rfl (by decide) (by omega) u4 x4_1 (⟨x232000_2, 0, true⟩ : S40) [.string x232000_2, .int .i64 0, .bool true] (fun k_ => k_ ≠ gb231) (fun _ => False) rfl rfl ?aP (fun _ hk => hk.elim) ?aF ?aO ?aB ?aS ?aL ?_; (case aP => exact k40_mkM _ _ _ (⟨x232000_2, 0, true⟩ : S40)); (case aB => exact (by repeat (first | (with_reducible first | exact HB.out | apply below_alloc | apply pw_below_drewN | apply below_drew1 | refine below_set ?_ GE231.out) | exact HB.out))); (case aF => exact (fun k_ hk => Kd.freshB (g := gb231) (o := .cells #[.string x232000_2, .int .i64 0, .bool true] 40 (0, 0)) (by (with_reducible repeat (first | refine blk_drewN ?_ _ | refine blk_drew ?_ | refine blk_alloc ?_ _)); exact BK231.out) k_ hk)); (case aO => exact (by (with_reducible repeat (first | apply Kd.R_alloc | apply Kd.R_drewN | apply Kd.R_drew)); exact HO_4.out)); (case aS => exact (below_size (by repeat (first | (with_reducible first | exact HB.out | apply below_alloc | apply pw_below_drewN | apply below_drew1 | refine below_set ?_ GE231.out) | exact HB.out)))); (case aL => have := LMc27.out; omega); intro v236 w29 ho hb hg hat; rw [← Ny235.out] at ho; have n0_ := Aside0.mk (blk_grown (g := gb231) (o := .cells #[.string x232000_2, .int .i64 0, .bool true] 40 (0, 0)) (by (with_reducible repeat (first | refine blk_drewN ?_ _ | refine blk_drew ?_ | refine blk_alloc ?_ _)); exact BK231.out) hg (Kd.R_away HO_4.out (fun _ hk => hk))); have n1_ := Aside0.mk (hb); have n2_ := Aside0.mk (ho); clear BK231; clear HB; clear HO_4; have BK231 := n0_; have HB := n1_; have HO237 := n2_; clear n0_ n1_ n2_; clear ho hb hg hat))
                        go_roundg k2
                        case measure => have := HK1.out; have := HK2.out; omega
                        case rel => exact ⟨(y235), (x5_2), (by first | rfl | (simp; done) | (simp [MyBase.ne_nil]; done) | (simp [*]; done)), H', ⟨by have := HK1.out; have := HK2.out; omega⟩, ⟨by (with_reducible repeat (first | apply Kd.R_alloc | apply Kd.R_drewN | apply Kd.R_drew)); exact Kd.R_mono HO237.out (fun _ hk => trivial)⟩, ⟨by repeat (first | (with_reducible first | exact HB.out | apply below_alloc | apply pw_below_drewN | apply below_drew1 | refine below_set ?_ GE231.out) | exact HB.out)⟩⟩
                      · rw [if_neg c27] at H
                        exact absurd H (by simp)
                  · replace c24 := Bool.eq_false_iff.mpr c24
                    subst c24
                    have H1 : (if x5_2 ≥ (a0.size : Int) then (concordanceref01_Get.j3 k2 a0 x4_1 x5_2 false true x232000_2 0 true) else (if 0 ≤ x5_2 then (if x5_2 < (a0.size : Int) then (if (bt a0 x5_2) = 0 then (concordanceref01_Get.j3 k2 a0 x4_1 x5_2 false (decide ((wrap64 (x5_2 + 1)) ≥ (a0.size : Int))) x232000_2 0 true) else (concordanceref01_Get.j3 k2 a0 x4_1 x5_2 false false x232000_2 0 true)) else (none)) else (none))) = some (r1, r2) := by rw [if_neg (show ¬ (false = true) by decide)] at H; exact H
                    clear H
                    have H := H1
                    clear H1
                    have HC30 := Aside0.mk H
                    clear H
                    go_upto_region 22 with (fail)
                    go_cut [69] (fun v69 wc => ∃ (kq : Nat) (x69_29 : Bool), v69 = .bool x69_29 ∧ Aside0 (concordanceref01_Get.j3 kq a0 x4_1 x5_2 false x69_29 x232000_2 0 true = some (r1, r2)) ∧ Aside0 (kq ≤ k2) ∧ Aside0 (Kd.R k40 40 wc w.heap.size (fun k_ => k_ ≠ gb231) u4 x4_1) ∧ Aside0 (wc.heap[gb231]? = some (.cells #[.string x232000_2, .int .i64 0, .bool true] 40 (0, 0))) ∧ Aside0 (Below w.heap.size w wc))
                    case first =>
                      have H := HC30.out
                      clear HC30
                      by_cases c31 : x5_2 ≥ (a0.size : Int)
                      · rw [if_pos c31] at H
                        have c31b0 : decide ((a0.size : Int) ≤ x5_2) = true := decide_eq_true c31
                        clear c31
                        (first | rw [c31b0] | (simp only [i64_w, i32_w]; rw [c31b0]) | skip)
                        have H' := Aside0.mk H
                        clear H
                        go_wp2
                        go_meet
                        case rel => exact ⟨_, (true), (by first | rfl | (simp; done) | (simp [MyBase.ne_nil]; done) | (simp [*]; done)), H', ⟨by have := HK1.out; have := HK2.out; first | omega | exact Nat.le_refl _⟩, ⟨by (with_reducible repeat (first | apply Kd.R_alloc | apply Kd.R_drewN | apply Kd.R_drew)); exact HO_4.out⟩, ⟨by (with_reducible repeat (first | refine blk_drewN ?_ _ | refine blk_drew ?_ | refine blk_alloc ?_ _)); exact BK231.out⟩, ⟨by repeat (first | (with_reducible first | exact HB.out | apply below_alloc | apply pw_below_drewN | apply below_drew1 | refine below_set ?_ GE231.out) | exact HB.out)⟩⟩
                      · rw [if_neg c31] at H
                        have c31b0 : decide ((a0.size : Int) ≤ x5_2) = false := decide_eq_false c31
                        clear c31
                        (first | rw [c31b0] | (simp only [i64_w, i32_w]; rw [c31b0]) | skip)
                        by_cases c32 : 0 ≤ x5_2
                        · rw [if_pos c32] at H
                          have c32b0 : decide (0 ≤ x5_2) = true := decide_eq_true c32
                          clear c32
                          by_cases c33 : x5_2 < (a0.size : Int)
                          · rw [if_pos c33] at H
                            have c33b0 : decide (x5_2 < (a0.size : Int)) = true := decide_eq_true c33
                            clear c33
                            by_cases c35 : (bt a0 x5_2) = 0
                            · rw [if_pos c35] at H
                              have c35b0 : ((bt a0 x5_2) == 0) = true := beq_iff_eq.mpr c35
                              have c35b1 : ((bt a0 x5_2) != 0) = false := bne_eq_false_iff_eq.mpr c35
                              clear c35
                              have H' := Aside0.mk H
                              clear H
                              have p34 : 0 ≤ (x5_2 : Int) := of_decide_eq_true (by first | (with_reducible assumption) | assumption)
                              have q34 : x5_2 < (a0.size : Int) := of_decide_eq_true (by first | (with_reducible assumption) | assumption)
                              have hx34 := bt_at a0 x5_2
                              replace p34 := eq_true p34
                              replace q34 := eq_true q34
                              go_wp2
                              go_meet
                              case rel => exact ⟨_, (decide ((wrap64 (x5_2 + 1)) ≥ (a0.size : Int))), (by first | rfl | (simp; done) | (simp [MyBase.ne_nil]; done) | (simp [*]; done)), H', ⟨by have := HK1.out; have := HK2.out; first | omega | exact Nat.le_refl _⟩, ⟨by (with_reducible repeat (first | apply Kd.R_alloc | apply Kd.R_drewN | apply Kd.R_drew)); exact HO_4.out⟩, ⟨by (with_reducible repeat (first | refine blk_drewN ?_ _ | refine blk_drew ?_ | refine blk_alloc ?_ _)); exact BK231.out⟩, ⟨by repeat (first | (with_reducible first | exact HB.out | apply below_alloc | apply pw_below_drewN | apply below_drew1 | refine below_set ?_ GE231.out) | exact HB.out)⟩⟩
                            · rw [if_neg c35] at H
                              have c35b0 : ((bt a0 x5_2) == 0) = false := beq_eq_false_iff_ne.mpr c35
                              have c35b1 : ((bt a0 x5_2) != 0) = true := bne_iff_ne.mpr c35
                              have H' := Aside0.mk H
                              clear H
                              have p34 : 0 ≤ (x5_2 : Int) := of_decide_eq_true (by first | (with_reducible assumption) | assumption)
                              have q34 : x5_2 < (a0.size : Int) := of_decide_eq_true (by first | (with_reducible assumption) | assumption)
                              have hx34 := bt_at a0 x5_2
                              replace p34 := eq_true p34
                              replace q34 := eq_true q34
                              go_wp2
                              go_meet
                              case rel => exact ⟨_, (false), (by first | rfl | (simp; done) | (simp [MyBase.ne_nil]; done) | (simp [*]; done)), H', ⟨by have := HK1.out; have := HK2.out; first | omega | exact Nat.le_refl _⟩, ⟨by (with_reducible repeat (first | apply Kd.R_alloc | apply Kd.R_drewN | apply Kd.R_drew)); exact HO_4.out⟩, ⟨by (with_reducible repeat (first | refine blk_drewN ?_ _ | refine blk_drew ?_ | refine blk_alloc ?_ _)); exact BK231.out⟩, ⟨by repeat (first | (with_reducible first | exact HB.out | apply below_alloc | apply pw_below_drewN | apply below_drew1 | refine below_set ?_ GE231.out) | exact HB.out)⟩⟩
                          · rw [if_neg c33] at H
                            exact absurd H (by simp)
                        · rw [if_neg c32] at H
                          exact absurd H (by simp)
                    case rest =>
                      clear HC30
                      try clear c1
                      try clear p1
                      try clear q1
                      try clear hx1
                      try clear c2
                      try clear c2b0
                      try clear p2
                      try clear q2
                      try clear hx2
                      try clear c3
                      try clear c3b0
                      try clear p3
                      try clear q3
                      try clear hx3
                      try clear p4
                      try clear q4
                      try clear hx4
                      try clear c5
                      try clear c5b0
                      try clear c5b1
                      try clear c6
                      try clear c6b0
                      try clear p6
                      try clear c11
                      try clear c11b0
                      try clear c13
                      try clear c13b0
                      try clear c14
                      try clear c14b0
                      try clear c15
                      try clear p15
                      try clear q15
                      try clear hx15
                      try clear c16
                      try clear c16b0
                      try clear c17
                      try clear p20
                      try clear q20
                      try clear hx20
                      try clear c21
                      try clear c21b0
                      try clear c21b1
                      try clear c24
                      try clear c25
                      try clear c25b0
                      try clear c25b1
                      try clear c27
                      try clear c31
                      try clear c31b0
                      try clear c32
                      try clear c32b0
                      try clear c33
                      try clear c33b0
                      try clear p34
                      try clear q34
                      try clear hx34
                      try clear c35
                      try clear c35b0
                      try clear c35b1
                      try clear hcz10_0
                      try clear hcz10_1
                      try clear hcz10_2
                      try clear hcz18_0
                      try clear hcz18_1
                      try clear hcz18_2
                      try clear hcz23_0
                      try clear hcz23_1
                      try clear hcz23_2
                      try clear hcz26_0
                      try clear hcz26_1
                      try clear hcz26_2
                      try clear hcz28_0
                      try clear hcz28_1
                      try clear hcz28_2
                      try clear hcz8_0
                      try clear hcz8_1
                      try clear hcz8_2
                      try clear hfz10_0
                      try clear hfz10_1
                      try clear hfz10_2
                      try clear hfz18_0
                      try clear hfz18_1
                      try clear hfz18_2
                      try clear hfz23_0
                      try clear hfz23_1
                      try clear hfz23_2
                      try clear hfz26_0
                      try clear hfz26_1
                      try clear hfz26_2
                      try clear hfz28_0
                      try clear hfz28_1
                      try clear hfz28_2
                      try clear hfz8_0
                      try clear hfz8_1
                      try clear hfz8_2
                      try clear p1
                      try clear p15
                      try clear p2
                      try clear p20
                      try clear p34
                      try clear p4
                      try clear p6
                      try clear q1
                      try clear q15
                      try clear q2
                      try clear q20
                      try clear q34
                      try clear q4
                      obtain ⟨kq, x69_29, rfl, HA, HJ29, HO_4, BK231, HB⟩ := hcut
                      cases kq with
                      | zero => exact absurd HA.out (by simp [concordanceref01_Get.j3])
                      | succ kj29 =>
                        have H := HA.out
                        clear HA
                        simp only [concordanceref01_Get.j3] at H
                        by_cases c36 : x69_29 = true
                        · subst c36
                          have H1 : (some (([] : List (S40)), 3)) = some (r1, r2) := by rw [if_pos rfl] at H; exact H
                          clear H
                          have H := H1
                          clear H1
                          simp only [Option.some.injEq, Prod.mk.injEq] at H
                          obtain ⟨rfl, rfl⟩ := H
                          go_wp2
                          go_ret2
                          exact ⟨_, by first | rfl | (simp [errW_none, errW_some] <;> rfl) | (simp [*, errW_none, errW_some] <;> rfl), by first | exact Kd.R_nil _ _ _ _ _ | exact Kd.N_nil _ _ _ _ _ | exact Kd.V_nil _ _ _ _ _ | exact Kd.Q_nil _ _ _ _ _ | exact Kd.S_nil _ _ _ _ _, by repeat (first | (with_reducible first | exact HB.out | apply below_alloc | apply pw_below_drewN | apply below_drew1 | refine below_set ?_ GE231.out) | exact HB.out)⟩
                        · replace c36 := Bool.eq_false_iff.mpr c36
                          subst c36
                          have H1 : (if 0 ≤ x5_2 then (if x5_2 < (a0.size : Int) then (if (bt a0 x5_2) = 0 then (if 0 ≤ (wrap64 (x5_2 + 1)) then (if (wrap64 (x5_2 + 1)) < (a0.size : Int) then (if (bt a0 (wrap64 (x5_2 + 1))) = 255 then (if x232000_2.size + 1 ≤ 9223372036854775807 then (concordanceref01_Get.l2 kj29 a0 x4_1 (wrap64 (x5_2 + 2)) false (x232000_2 ++ (⟨#[0]⟩ : ByteArray)) 0 true) else (none)) else (if (bt a0 (wrap64 (x5_2 + 1))) = 1 then (concordanceref01_Get.l2 kj29 a0 x4_1 (wrap64 (x5_2 + 2)) true x232000_2 0 true) else (some (([] : List (S40)), 2)))) else (none)) else (none)) else (if x5_2 ≤ (wrap64 (x5_2 + 1)) then (if (wrap64 (x5_2 + 1)) ≤ (a0.size : Int) then (if x232000_2.size + (a0.extract (x5_2 : Int).toNat ((wrap64 (x5_2 + 1)) : Int).toNat).size ≤ 9223372036854775807 then (concordanceref01_Get.l2 kj29 a0 x4_1 (wrap64 (x5_2 + 1)) false (x232000_2 ++ (a0.extract (x5_2 : Int).toNat ((wrap64 (x5_2 + 1)) : Int).toNat)) 0 true) else (none)) else (none)) else (none))) else (none)) else (none)) = some (r1, r2) := by rw [if_neg (show ¬ (false = true) by decide)] at H; exact H
                          clear H
                          have H := H1
                          clear H1
                          by_cases c37 : 0 ≤ x5_2
                          · rw [if_pos c37] at H
                            have c37b0 : decide (0 ≤ x5_2) = true := decide_eq_true c37
                            clear c37
                            by_cases c38 : x5_2 < (a0.size : Int)
                            · rw [if_pos c38] at H
                              have c38b0 : decide (x5_2 < (a0.size : Int)) = true := decide_eq_true c38
                              clear c38
                              by_cases c40 : (bt a0 x5_2) = 0
                              · rw [if_pos c40] at H
                                have c40b0 : ((bt a0 x5_2) == 0) = true := beq_iff_eq.mpr c40
                                have c40b1 : ((bt a0 x5_2) != 0) = false := bne_eq_false_iff_eq.mpr c40
                                clear c40
                                obtain ⟨ji41, hji41⟩ : ∃ j_ : Int, (wrap64 (x5_2 + 1)) = j_ := ⟨_, rfl⟩
                                replace H : (if 0 ≤ (ji41) then (if (ji41) < (a0.size : Int) then (if (bt a0 (ji41)) = 255 then (if x232000_2.size + 1 ≤ 9223372036854775807 then (concordanceref01_Get.l2 kj29 a0 x4_1 (wrap64 (x5_2 + 2)) false (x232000_2 ++ (⟨#[0]⟩ : ByteArray)) 0 true) else (none)) else (if (bt a0 (ji41)) = 1 then (concordanceref01_Get.l2 kj29 a0 x4_1 (wrap64 (x5_2 + 2)) true x232000_2 0 true) else (some (([] : List (S40)), 2)))) else (none)) else (none)) = some (r1, r2) := by first | (rw [hji41] at H; exact H) | (simp only [hji41] at H ⊢; exact H)
                                have hji41w : (IntKind.i64.wrap (x5_2 + 1)) = ji41 := (i64_w _).trans hji41
                                by_cases c42 : 0 ≤ (ji41)
                                · rw [if_pos c42] at H
                                  have c42b0 : decide (0 ≤ (ji41)) = true := decide_eq_true c42
                                  clear c42
                                  by_cases c43 : (ji41) < (a0.size : Int)
                                  · rw [if_pos c43] at H
                                    have c43b0 : decide ((ji41) < (a0.size : Int)) = true := decide_eq_true c43
                                    clear c43
                                    by_cases c45 : (bt a0 (ji41)) = 255
                                    · rw [if_pos c45] at H
                                      have c45b0 : ((bt a0 (ji41)) == 255) = true := beq_iff_eq.mpr c45
                                      have c45b1 : ((bt a0 (ji41)) != 255) = false := bne_eq_false_iff_eq.mpr c45
                                      clear c45
                                      by_cases c46 : x232000_2.size + 1 ≤ 9223372036854775807
                                      · rw [if_pos c46] at H
                                        have c46b0 := eq_true c46
                                        have c46b1 : decide (x232000_2.size + 1 ≤ 9223372036854775807) = true := decide_eq_true c46
                                        try have c46b2 : (9223372036854775807 < x232000_2.size + 1) = False := eq_false (Nat.not_lt.2 c46)
                                        have H' := Aside0.mk H
                                        clear H
                                        have p39 : 0 ≤ (x5_2 : Int) := of_decide_eq_true (by first | (with_reducible assumption) | assumption)
                                        have q39 : x5_2 < (a0.size : Int) := of_decide_eq_true (by first | (with_reducible assumption) | assumption)
                                        have hx39 := bt_at a0 x5_2
                                        replace p39 := eq_true p39
                                        replace q39 := eq_true q39
                                        have p44 : 0 ≤ ((ji41) : Int) := of_decide_eq_true (by first | (with_reducible assumption) | assumption)
                                        have q44 : (ji41) < (a0.size : Int) := of_decide_eq_true (by first | (with_reducible assumption) | assumption)
                                        have hx44 := bt_at a0 (ji41)
                                        replace p44 := eq_true p44
                                        replace q44 := eq_true q44
                                        have hcz47_0 : wc.cell? ⟨gb231, 0, none⟩ = some (.string x232000_2) := (blk_cell BK231.out 0).trans rfl
                                        have hcz47_1 : wc.cell? ⟨gb231, 1, none⟩ = some (.int .i64 0) := (blk_cell BK231.out 1).trans rfl
                                        have hcz47_2 : wc.cell? ⟨gb231, 2, none⟩ = some (.bool true) := (blk_cell BK231.out 2).trans rfl
                                        have hfz47_0 := blk_frozen BK231.out 0
                                        have hfz47_1 := blk_frozen BK231.out 1
                                        have hfz47_2 := blk_frozen BK231.out 2
                                        go_wp2
                                        go_roundg kj29
                                        case measure => have := HK1.out; have := HK2.out; have := HJ29.out; omega
                                        case rel => exact ⟨(wrap64 (x5_2 + 2)), (false), (x232000_2 ++ (⟨#[0]⟩ : ByteArray)), (by first | rfl | (simp; done) | (simp [MyBase.ne_nil]; done) | (simp [*]; done)), (by first | rfl | (simp; done) | (simp [MyBase.ne_nil]; done) | (simp [*]; done)), H', ⟨by have := HK1.out; have := HK2.out; have := HJ29.out; omega⟩, ⟨by (with_reducible repeat (first | apply Kd.R_alloc | apply Kd.R_drewN | apply Kd.R_drew)); exact Kd.R_mono (Kd.R_far (p := ⟨gb231, 0, none⟩) (Kd.R_mono HO_4.out (fun k_ hk => (⟨hk, hk⟩ : _ ∧ k_ ≠ gb231))) (fun _ hk => hk.2) (.string (x232000_2 ++ (⟨#[0]⟩ : ByteArray)))) (fun _ hk => hk.1)⟩, ⟨by (with_reducible repeat (first | refine blk_drewN ?_ _ | refine blk_drew ?_ | refine blk_alloc ?_ _)); refine blk_put (cs := #[.string x232000_2, .int .i64 0, .bool true]) ?_ 0 _ rfl; (with_reducible repeat (first | refine blk_drewN ?_ _ | refine blk_drew ?_ | refine blk_alloc ?_ _)); exact BK231.out⟩, ⟨by repeat (first | (with_reducible first | exact HB.out | apply below_alloc | apply pw_below_drewN | apply below_drew1 | refine below_set ?_ GE231.out) | exact HB.out)⟩⟩
                                      · rw [if_neg c46] at H
                                        exact absurd H (by simp)
                                    · rw [if_neg c45] at H
                                      have c45b0 : ((bt a0 (ji41)) == 255) = false := beq_eq_false_iff_ne.mpr c45
                                      have c45b1 : ((bt a0 (ji41)) != 255) = true := bne_iff_ne.mpr c45
                                      by_cases c49 : (bt a0 (ji41)) = 1
                                      · rw [if_pos c49] at H
                                        have c49b0 : ((bt a0 (ji41)) == 1) = true := beq_iff_eq.mpr c49
                                        have c49b1 : ((bt a0 (ji41)) != 1) = false := bne_eq_false_iff_eq.mpr c49
                                        clear c49
                                        have H' := Aside0.mk H
                                        clear H
                                        have p39 : 0 ≤ (x5_2 : Int) := of_decide_eq_true (by first | (with_reducible assumption) | assumption)
                                        have q39 : x5_2 < (a0.size : Int) := of_decide_eq_true (by first | (with_reducible assumption) | assumption)
                                        have hx39 := bt_at a0 x5_2
                                        replace p39 := eq_true p39
                                        replace q39 := eq_true q39
                                        have p44 : 0 ≤ ((ji41) : Int) := of_decide_eq_true (by first | (with_reducible assumption) | assumption)
                                        have q44 : (ji41) < (a0.size : Int) := of_decide_eq_true (by first | (with_reducible assumption) | assumption)
                                        have hx44 := bt_at a0 (ji41)
                                        replace p44 := eq_true p44
                                        replace q44 := eq_true q44
                                        have p48 : 0 ≤ ((ji41) : Int) := of_decide_eq_true (by first | (with_reducible assumption) | assumption)
                                        have q48 : (ji41) < (a0.size : Int) := of_decide_eq_true (by first | (with_reducible assumption) | assumption)
                                        have hx48 := bt_at a0 (ji41)
                                        replace p48 := eq_true p48
                                        replace q48 := eq_true q48
                                        go_wp2
                                        go_roundg kj29
                                        case measure => have := HK1.out; have := HK2.out; have := HJ29.out; omega
                                        case rel => exact ⟨(wrap64 (x5_2 + 2)), (true), (x232000_2), (by first | rfl | (simp; done) | (simp [MyBase.ne_nil]; done) | (simp [*]; done)), (by first | rfl | (simp; done) | (simp [MyBase.ne_nil]; done) | (simp [*]; done)), H', ⟨by have := HK1.out; have := HK2.out; have := HJ29.out; omega⟩, ⟨by (with_reducible repeat (first | apply Kd.R_alloc | apply Kd.R_drewN | apply Kd.R_drew)); exact HO_4.out⟩, ⟨by (with_reducible repeat (first | refine blk_drewN ?_ _ | refine blk_drew ?_ | refine blk_alloc ?_ _)); exact BK231.out⟩, ⟨by repeat (first | (with_reducible first | exact HB.out | apply below_alloc | apply pw_below_drewN | apply below_drew1 | refine below_set ?_ GE231.out) | exact HB.out)⟩⟩
                                      · rw [if_neg c49] at H
                                        have c49b0 : ((bt a0 (ji41)) == 1) = false := beq_eq_false_iff_ne.mpr c49
                                        have c49b1 : ((bt a0 (ji41)) != 1) = true := bne_iff_ne.mpr c49
                                        simp only [Option.some.injEq, Prod.mk.injEq] at H
                                        obtain ⟨rfl, rfl⟩ := H
                                        have p39 : 0 ≤ (x5_2 : Int) := of_decide_eq_true (by first | (with_reducible assumption) | assumption)
                                        have q39 : x5_2 < (a0.size : Int) := of_decide_eq_true (by first | (with_reducible assumption) | assumption)
                                        have hx39 := bt_at a0 x5_2
                                        replace p39 := eq_true p39
                                        replace q39 := eq_true q39
                                        have p44 : 0 ≤ ((ji41) : Int) := of_decide_eq_true (by first | (with_reducible assumption) | assumption)
                                        have q44 : (ji41) < (a0.size : Int) := of_decide_eq_true (by first | (with_reducible assumption) | assumption)
                                        have hx44 := bt_at a0 (ji41)
                                        replace p44 := eq_true p44
                                        replace q44 := eq_true q44
                                        have p48 : 0 ≤ ((ji41) : Int) := of_decide_eq_true (by first | (with_reducible assumption) | assumption)
                                        have q48 : (ji41) < (a0.size : Int) := of_decide_eq_true (by first | (with_reducible assumption) | assumption)
                                        have hx48 := bt_at a0 (ji41)
                                        replace p48 := eq_true p48
                                        replace q48 := eq_true q48
                                        go_wp2
                                        go_ret2
                                        exact ⟨_, by first | rfl | (simp [errW_none, errW_some] <;> rfl) | (simp only [← hji41]; first | rfl | (simp [errW_none, errW_some] <;> rfl)) | (simp [*, errW_none, errW_some] <;> rfl), by first | exact Kd.R_nil _ _ _ _ _ | exact Kd.N_nil _ _ _ _ _ | exact Kd.V_nil _ _ _ _ _ | exact Kd.Q_nil _ _ _ _ _ | exact Kd.S_nil _ _ _ _ _, by repeat (first | (with_reducible first | exact HB.out | apply below_alloc | apply pw_below_drewN | apply below_drew1 | refine below_set ?_ GE231.out) | exact HB.out)⟩
                                  · rw [if_neg c43] at H
                                    exact absurd H (by simp)
                                · rw [if_neg c42] at H
                                  exact absurd H (by simp)
                              · rw [if_neg c40] at H
                                have c40b0 : ((bt a0 x5_2) == 0) = false := beq_eq_false_iff_ne.mpr c40
                                have c40b1 : ((bt a0 x5_2) != 0) = true := bne_iff_ne.mpr c40
                                have c50b0 := eq_true (of_decide_eq_true (by first | (with_reducible assumption) | assumption) : 0 ≤ x5_2)
                                by_cases c51 : x5_2 ≤ (wrap64 (x5_2 + 1))
                                · rw [if_pos c51] at H
                                  have c51b0 := eq_true c51
                                  have c51b1 : decide (x5_2 ≤ (wrap64 (x5_2 + 1))) = true := decide_eq_true c51
                                  by_cases c52 : (wrap64 (x5_2 + 1)) ≤ (a0.size : Int)
                                  · rw [if_pos c52] at H
                                    have c52b0 := eq_true c52
                                    have c52b1 : decide ((wrap64 (x5_2 + 1)) ≤ (a0.size : Int)) = true := decide_eq_true c52
                                    by_cases c53 : x232000_2.size + (a0.extract (x5_2 : Int).toNat ((wrap64 (x5_2 + 1)) : Int).toNat).size ≤ 9223372036854775807
                                    · rw [if_pos c53] at H
                                      have c53b0 := eq_true c53
                                      have c53b1 : decide (x232000_2.size + (a0.extract (x5_2 : Int).toNat ((wrap64 (x5_2 + 1)) : Int).toNat).size ≤ 9223372036854775807) = true := decide_eq_true c53
                                      try have c53b2 : (9223372036854775807 < x232000_2.size + (a0.extract (x5_2 : Int).toNat ((wrap64 (x5_2 + 1)) : Int).toNat).size) = False := eq_false (Nat.not_lt.2 c53)
                                      have c53y := c53
                                      (try simp only [ByteArray.size_append, ByteArray.size_extract, Nat.sub_zero] at c53y)
                                      (repeat rw [Nat.min_eq_left (by (try simp only [decide_eq_true_eq] at *); omega)] at c53y)
                                      have c53y0 := eq_true c53y
                                      (try have c53y2 := eq_false (Nat.not_lt.2 c53y))
                                      clear c53y
                                      have H' := Aside0.mk H
                                      clear H
                                      have p39 : 0 ≤ (x5_2 : Int) := of_decide_eq_true (by first | (with_reducible assumption) | assumption)
                                      have q39 : x5_2 < (a0.size : Int) := of_decide_eq_true (by first | (with_reducible assumption) | assumption)
                                      have hx39 := bt_at a0 x5_2
                                      replace p39 := eq_true p39
                                      replace q39 := eq_true q39
                                      try go_wp2
                                      have n0_ := Aside0.mk (Kd.R_drew HO_4.out)
                                      have n1_ := Aside0.mk (blk_drew BK231.out)
                                      have n2_ := Aside0.mk (below_drew1 HB.out)
                                      clear HO_4
                                      clear BK231
                                      clear HB
                                      have HO_4 := n0_
                                      have BK231 := n1_
                                      have HB := n2_
                                      clear n0_ n1_ n2_
                                      refine start_ (n := 10) (S := fun w' => w'.cell? ⟨gb231, 0, none⟩ = some (.string x232000_2) ∧ w'.cell? ⟨gb231, 1, none⟩ = some (.int .i64 0) ∧ w'.cell? ⟨gb231, 2, none⟩ = some (.bool true)) (ds := [9]) #[false, false, false, false, false, false, false, false, false, false] (by kernel_rfl) rfl rfl ⟨(blk_cell BK231.out 0).trans rfl, (blk_cell BK231.out 1).trans rfl, (blk_cell BK231.out 2).trans rfl⟩ (fun hHeld => ?_); refine with_tabW concordanceref01_Get.tab25 concordanceref01_Get.bits25 (fun HT_ HW_ => ?_)
                                      generalize wc.drew = w54 at HO_4 BK231 HB hHeld ⊢
                                      refine pure_ (i := 0) (N := some 74) (v := ?_) (a' := ?_) #[true, false, false, false, false, false, false, false, false, false] rfl rfl (any_of HT_.out (by kernel_rfl)) (fun _ _ _ h => h) (Or.inl ⟨by rfl, ?_⟩) ?_ ?_
                                      rotate_left
                                      · intro w'
                                        go_simp
                                        with_reducible rfl
                                      rotate_left
                                      · simp only [Act.put, List.setIfInBounds_toArray, List.set_cons_zero, List.set_cons_succ, i64_w, i32_w]
                                        rfl
                                      refine pure_ (i := 2) (N := some 76) (v := ?_) (a' := ?_) #[true, false, true, false, false, false, false, false, false, false] rfl rfl (any_of HT_.out (by kernel_rfl)) (fun _ _ _ h => h) (Or.inl ⟨by rfl, ?_⟩) ?_ ?_
                                      rotate_left
                                      · intro w'
                                        go_simp
                                        with_reducible rfl
                                      rotate_left
                                      · simp only [Act.put, List.setIfInBounds_toArray, List.set_cons_zero, List.set_cons_succ, i64_w, i32_w]
                                        rfl
                                      refine pure_ (i := 3) (N := some 77) (v := ?_) (a' := ?_) #[true, false, true, true, false, false, false, false, false, false] rfl rfl (any_of HT_.out (by kernel_rfl)) (fun _ _ _ h => h) (Or.inl ⟨by rfl, ?_⟩) ?_ ?_
                                      rotate_left
                                      · intro w'
                                        go_simp
                                        with_reducible rfl
                                      rotate_left
                                      · simp only [Act.put, List.setIfInBounds_toArray, List.set_cons_zero, List.set_cons_succ, i64_w, i32_w]
                                        rfl
                                      refine pure_ (i := 4) (N := some 78) (v := ?_) (a' := ?_) #[true, false, true, true, true, false, false, false, false, false] rfl rfl (any_of HT_.out (by kernel_rfl)) (fun _ _ _ h => h) (Or.inl ⟨by rfl, ?_⟩) ?_ ?_
                                      rotate_left
                                      · intro w'
                                        go_simp
                                        with_reducible rfl
                                      rotate_left
                                      · simp only [Act.put, List.setIfInBounds_toArray, List.set_cons_zero, List.set_cons_succ, i64_w, i32_w]
                                        rfl
                                      refine pure_ (i := 5) (N := some 79) (v := ?_) (a' := ?_) #[true, false, true, true, true, true, false, false, false, false] rfl rfl (any_of HT_.out (by kernel_rfl)) (fun _ _ _ h => h) (Or.inl ⟨by rfl, ?_⟩) ?_ ?_
                                      rotate_left
                                      · intro w'
                                        go_simp
                                        with_reducible rfl
                                      rotate_left
                                      · simp only [Act.put, List.setIfInBounds_toArray, List.set_cons_zero, List.set_cons_succ, i64_w, i32_w]
                                        rfl
                                      refine pure_ (i := 6) (N := some 80) (v := ?_) (a' := ?_) #[true, false, true, true, true, true, true, false, false, false] rfl rfl (any_of HT_.out (by kernel_rfl)) (fun _ _ _ h => h) (Or.inl ⟨by rfl, ?_⟩) ?_ ?_
                                      rotate_left
                                      · intro w'
                                        go_simp
                                        with_reducible rfl
                                      rotate_left
                                      · simp only [Act.put, List.setIfInBounds_toArray, List.set_cons_zero, List.set_cons_succ, i64_w, i32_w]
                                        rfl
                                      refine take_ (i := 1) (N := some 75) (v := ?_) (a' := ?_) #[true, true, true, true, true, true, true, false, false, false] rfl rfl (take_ofW HT_.out HW_.out (by kernel_rfl)) (fun _ _ _ h => h) (Or.inl ⟨by rfl, ?_⟩) hHeld ?_ ?_
                                      rotate_left
                                      · rintro w' ⟨s0, s1, s2⟩
                                        go_simp
                                        with_reducible rfl
                                      rotate_left
                                      · simp only [Act.put, List.setIfInBounds_toArray, List.set_cons_zero, List.set_cons_succ, i64_w, i32_w]
                                        rfl
                                      refine pure_ (i := 7) (N := some 81) (v := ?_) (a' := ?_) #[true, true, true, true, true, true, true, true, false, false] rfl rfl (any_of HT_.out (by kernel_rfl)) (fun _ _ _ h => h) (Or.inl ⟨by rfl, ?_⟩) ?_ ?_
                                      rotate_left
                                      · intro w'
                                        go_simp
                                        with_reducible rfl
                                      rotate_left
                                      · simp only [Act.put, List.setIfInBounds_toArray, List.set_cons_zero, List.set_cons_succ, i64_w, i32_w]
                                        rfl
                                      refine pure_ (i := 8) (N := some 82) (v := ?_) (a' := ?_) #[true, true, true, true, true, true, true, true, true, false] rfl rfl (any_of HT_.out (by kernel_rfl)) (fun _ _ _ h => h) (Or.inl ⟨by rfl, ?_⟩) ?_ ?_
                                      rotate_left
                                      · intro w'
                                        go_simp
                                        with_reducible rfl
                                      rotate_left
                                      · simp only [Act.put, List.setIfInBounds_toArray, List.set_cons_zero, List.set_cons_succ, i64_w, i32_w]
                                        rfl
                                      refine last_ (i := 9) (N := none) #[true, true, true, true, true, true, true, true, true, true] rfl rfl (one_of HT_.out (by kernel_rfl)) (by decide) (fun K hK => ?_)
                                      have hs55 : w54.cell? ⟨gb231, 0, none⟩ = some (.string x232000_2) := (blk_cell BK231.out 0).trans rfl
                                      have hfs55 := blk_frozen BK231.out 0
                                      refine skip_ (w1 := ?_) (by rfl) rfl ?_ ?_
                                      rotate_left
                                      · go_simp
                                        rfl
                                      refine hK.out _ _ ?_
                                      clear hK K
                                      refine done_ (done_of HT_.out (by kernel_rfl)) ?_
                                      try go_wp2
                                      go_roundg kj29
                                      case measure => have := HK1.out; have := HK2.out; have := HJ29.out; omega
                                      case rel => exact ⟨(wrap64 (x5_2 + 1)), (false), (x232000_2 ++ (a0.extract (x5_2 : Int).toNat ((wrap64 (x5_2 + 1)) : Int).toNat)), (by first | rfl | (simp; done) | (simp [MyBase.ne_nil]; done) | (simp [*]; done)), (by first | rfl | (simp; done) | (simp [MyBase.ne_nil]; done) | (simp [*]; done)), H', ⟨by have := HK1.out; have := HK2.out; have := HJ29.out; omega⟩, ⟨by (with_reducible repeat (first | apply Kd.R_alloc | apply Kd.R_drewN | apply Kd.R_drew)); exact Kd.R_mono (Kd.R_far (p := ⟨gb231, 0, none⟩) (Kd.R_mono HO_4.out (fun k_ hk => (⟨hk, hk⟩ : _ ∧ k_ ≠ gb231))) (fun _ hk => hk.2) (.string (x232000_2 ++ (a0.extract (x5_2 : Int).toNat ((wrap64 (x5_2 + 1)) : Int).toNat)))) (fun _ hk => hk.1)⟩, ⟨by (with_reducible repeat (first | refine blk_drewN ?_ _ | refine blk_drew ?_ | refine blk_alloc ?_ _)); refine blk_put (cs := #[.string x232000_2, .int .i64 0, .bool true]) ?_ 0 _ rfl; (with_reducible repeat (first | refine blk_drewN ?_ _ | refine blk_drew ?_ | refine blk_alloc ?_ _)); exact BK231.out⟩, ⟨by repeat (first | (with_reducible first | exact HB.out | apply below_alloc | apply pw_below_drewN | apply below_drew1 | refine below_set ?_ GE231.out) | exact HB.out)⟩⟩
                                    · rw [if_neg c53] at H
                                      exact absurd H (by simp)
                                  · rw [if_neg c52] at H
                                    exact absurd H (by simp)
                                · rw [if_neg c51] at H
                                  exact absurd H (by simp)
                            · rw [if_neg c38] at H
                              exact absurd H (by simp)
                          · rw [if_neg c37] at H
                            exact absurd H (by simp)
            · rw [if_neg c21] at H
              have c21b0 : ((bt a0 x5_1) == 32) = false := beq_eq_false_iff_ne.mpr c21
              have c21b1 : ((bt a0 x5_1) != 32) = true := bne_iff_ne.mpr c21
              simp only [Option.some.injEq, Prod.mk.injEq] at H
              obtain ⟨rfl, rfl⟩ := H
              go_wp2_with (first | ((with_reducible refine gate_dst (N := 6) rfl ?_); (try (refine gate_guard (by rfl) ?_; dsimp only)); refine box_event ?hg (N := 6) ?hd (cs := #[.string (⟨#[]⟩ : ByteArray), .int .i64 0, .bool false]) (t := 40) ?hr ?_; (case hd => rfl); (case hg => rfl); (case hr => first | (go_simp; done) | (go_simp; rfl)); intro gb231 hg w56 hbox hb; have n0_ := Aside0.mk (Kd.R_below (Kd.R_elderB (by (with_reducible repeat (first | apply Kd.R_alloc | apply Kd.R_drewN | apply Kd.R_drew)); exact HO_4.out) gb231 (Nat.le_of_eq hg.symm)) hb); have n1_ := Aside0.mk (below_step (by repeat (first | (with_reducible first | exact HB.out | apply below_alloc | apply pw_below_drewN | apply below_drew1) | exact HB.out)) hb); have n2_ := Aside0.mk (hbox); have n3_ := Aside0.mk ((by rw [hg]; exact (below_size (by repeat (first | (with_reducible first | exact HB.out | apply below_alloc | apply pw_below_drewN | apply below_drew1) | exact HB.out))) : w.heap.size ≤ gb231)); have n4_ := Aside0.mk ((by rw [hg]; exact (below_size (by repeat (first | (with_reducible first | exact HB.out | apply below_alloc | apply pw_below_drewN | apply below_drew1) | exact HB.out))) : w.heap.size ≤ gb231)); clear HO_4; clear HB; have HO_4 := n0_; have HB := n1_; have BK231 := n2_; have GW231 := n3_; have GE231 := n4_; clear n0_ n1_ n2_ n3_ n4_; clear hb hbox hg; have hcz57_0 : w56.cell? ⟨gb231, 0, none⟩ = some (.string (⟨#[]⟩ : ByteArray)) := (blk_cell BK231.out 0).trans rfl; have hcz57_1 : w56.cell? ⟨gb231, 1, none⟩ = some (.int .i64 0) := (blk_cell BK231.out 1).trans rfl; have hcz57_2 : w56.cell? ⟨gb231, 2, none⟩ = some (.bool false) := (blk_cell BK231.out 2).trans rfl; have hfz57_0 := blk_frozen BK231.out 0; have hfz57_1 := blk_frozen BK231.out 1; have hfz57_2 := blk_frozen BK231.out 2; have p4 : 0 ≤ (x5_1 : Int) := of_decide_eq_true (by first | (with_reducible assumption) | assumption); have q4 : x5_1 < (a0.size : Int) := of_decide_eq_true (by first | (with_reducible assumption) | assumption); have hx4 := bt_at a0 x5_1; replace p4 := eq_true p4; replace q4 := eq_true q4; have p20 : 0 ≤ (x5_1 : Int) := of_decide_eq_true (by first | (with_reducible assumption) | assumption); have q20 : x5_1 < (a0.size : Int) := of_decide_eq_true (by first | (with_reducible assumption) | assumption); have hx20 := bt_at a0 x5_1; replace p20 := eq_true p20; replace q20 := eq_true q20))
              go_ret2
              exact ⟨_, by first | rfl | (simp [errW_none, errW_some] <;> rfl) | (simp [*, errW_none, errW_some] <;> rfl), by first | exact Kd.R_nil _ _ _ _ _ | exact Kd.N_nil _ _ _ _ _ | exact Kd.V_nil _ _ _ _ _ | exact Kd.Q_nil _ _ _ _ _ | exact Kd.S_nil _ _ _ _ _, by repeat (first | (with_reducible first | exact HB.out | apply below_alloc | apply pw_below_drewN | apply below_drew1 | refine below_set ?_ GE231.out) | exact HB.out)⟩
        · rw [if_neg c3] at H
          exact absurd H (by simp)
      · rw [if_neg c2] at H
        have c2b0 : decide (x5_1 < (a0.size : Int)) = false := decide_eq_false c2
        clear c2
        simp only [Option.some.injEq, Prod.mk.injEq] at H
        obtain ⟨rfl, rfl⟩ := H
        go_wp2
        go_ret2
        exact ⟨_, by first | rfl | (simp [errW_none, errW_some] <;> rfl) | (simp [*, errW_none, errW_some] <;> rfl), by (with_reducible repeat (first | apply Kd.R_alloc | apply Kd.R_drewN | apply Kd.R_drew)); exact HO_4.out, by repeat (first | (with_reducible first | exact HB.out | apply below_alloc | apply pw_below_drewN | apply below_drew1) | exact HB.out)⟩

end Go.Proofs.Ytojelhacelfjkaa.PA

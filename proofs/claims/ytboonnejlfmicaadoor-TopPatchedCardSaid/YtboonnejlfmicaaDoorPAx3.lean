-- Written by a program of this seat out of the translation; Lean checks it.
import Derived.Test.YtboonnejlfmicaaDoorPAx0
import Derived.Test.YtboonnejlfmicaaDoorPAx1
import Derived.Test.YtboonnejlfmicaaDoorPAx2
namespace Go.Proofs.YtboonnejlfmicaaDoor.PA
open Go.RowKit Go.Proofs.YtboonnejlfmicaaDoorW.PrintWords Go.Proofs.YtboonnejlfmicaaDoorW.PrintLast Go.Proofs.YtboonnejlfmicaaDoorW.PrintMore
attribute [local go_sem] MyBase.max0 max2_int min2_int max_two min_two max_three min_three max_four min_four   -- for this text's walks alone
set_option linter.unusedVariables false
set_option linter.unusedSimpArgs false

/-! ### keys_Put: function 14 -/
mutual
def keys_Put.l0 : Nat → List Int → List (S46) → Int → Int → Option (ByteArray × Int)
  | 0, _, _, _, _ => none
  | k + 1, x4, x10, x11, x12 => if x12 < x11 then (if 0 ≤ x12 then (if x12 < (x10.length : Int) then ((keys_Value_right.f k ((rd_T46 x10 x12).f0) ((rd_T46 x10 x12).f1) ((rd_T46 x10 x12).f2)).bind fun t130 => (if t130 = 0 then (if ((rd_T46 x10 x12).f2 = true) then (if x4.length < 140737488355328 then (keys_Put.l2 k (x4 ++ [32]) x10 x11 x12 (((rd_T46 x10 x12).f0).size : Int) 0 ((rd_T46 x10 x12).f0) ((rd_T46 x10 x12).f1) ((rd_T46 x10 x12).f2)) else (none)) else (if x4.length < 140737488355328 then (keys_Put.l1 k (x4 ++ [16]) 5 x10 x11 x12 ((rd_T46 x10 x12).f0) ((rd_T46 x10 x12).f1) ((rd_T46 x10 x12).f2)) else (none))) else (some ((⟨#[]⟩ : ByteArray), t130)))) else (none)) else (none)) else (some (strOfNums x4, 0))
def keys_Put.l2 : Nat → List Int → List (S46) → Int → Int → Int → Int → ByteArray → Int → Bool → Option (ByteArray × Int)
  | 0, _, _, _, _, _, _, _, _, _ => none
  | k + 1, x4, x10, x11, x12, x46, x47, x130000, x130001, x130002 => if x47 < x46 then (if 0 ≤ x47 then (if x47 < (x130000.size : Int) then (if x4.length < 140737488355328 then ((some (x4 ++ [bt x130000 x47] : List Int)).bind fun y140 => (if (bt x130000 x47) = 0 then (if y140.length < 140737488355328 then (keys_Put.l2 k (y140 ++ [255]) x10 x11 x12 x46 (wrap64 (x47 + 1)) x130000 x130001 x130002) else (none)) else (keys_Put.l2 k y140 x10 x11 x12 x46 (wrap64 (x47 + 1)) x130000 x130001 x130002))) else (none)) else (none)) else (none)) else ((some (([0, 1] : List Int) : List Int)).bind fun y146 => (if x4.length + y146.length < 140737488355328 then (keys_Put.l0 k (x4 ++ y146) x10 x11 (wrap64 (x12 + 1))) else (none)))
def keys_Put.l1 : Nat → List Int → Int → List (S46) → Int → Int → ByteArray → Int → Bool → Option (ByteArray × Int)
  | 0, _, _, _, _, _, _, _, _ => none
  | k + 1, x4, x8, x10, x11, x12, x130000, x130001, x130002 => if x8 ≥ 0 then (if 0 ≤ (wrap64 (8 * x8)) then (if x4.length < 140737488355328 then (keys_Put.l1 k (x4 ++ [(shr .i64 (wrap64 (x130001 + 1099511627776)) (wrap64 (8 * x8))) % 256]) (wrap64 (x8 - 1)) x10 x11 x12 x130000 x130001 x130002) else (none)) else (none)) else (keys_Put.l0 k x4 x10 x11 (wrap64 (x12 + 1)))
end
def keys_Put.f (k : Nat) (l0 : List (S46)) : Option (ByteArray × Int) := keys_Put.l0 k ([] : List Int) l0 (l0.length : Int) 0
theorem keys_Put.mono_l : ∀ k, (∀ y0 y1 y2 y3, LeO (keys_Put.l0 k y0 y1 y2 y3) (keys_Put.l0 (k + 1) y0 y1 y2 y3)) ∧ (∀ y0 y1 y2 y3 y4 y5 y6 y7 y8, LeO (keys_Put.l2 k y0 y1 y2 y3 y4 y5 y6 y7 y8) (keys_Put.l2 (k + 1) y0 y1 y2 y3 y4 y5 y6 y7 y8)) ∧ (∀ y0 y1 y2 y3 y4 y5 y6 y7, LeO (keys_Put.l1 k y0 y1 y2 y3 y4 y5 y6 y7) (keys_Put.l1 (k + 1) y0 y1 y2 y3 y4 y5 y6 y7))
  | 0 => ⟨fun _ _ _ _ r h => by simp [keys_Put.l0] at h, fun _ _ _ _ _ _ _ _ _ r h => by simp [keys_Put.l2] at h, fun _ _ _ _ _ _ _ _ r h => by simp [keys_Put.l1] at h⟩
  | k + 1 => by
    obtain ⟨ih0, ih1, ih2⟩ := keys_Put.mono_l k
    refine ⟨?_, ?_, ?_⟩
    · intro y0 y1 y2 y3
      unfold keys_Put.l0
      repeat' first
      | (with_reducible exact ih0 _ _ _ _)
      | (with_reducible exact ih1 _ _ _ _ _ _ _ _ _)
      | (with_reducible exact ih2 _ _ _ _ _ _ _ _)
      | (with_reducible exact keys_Value_right.mono _ _ _ _)
      | (with_reducible exact LeO.refl _)
      | (with_reducible exact LeO.none _)
      | (with_reducible refine LeO.ite ?_ ?_)
      | (with_reducible refine LeO.bind ?_ (fun _ => ?_))
      | exact ih0 _ _ _ _
      | exact ih1 _ _ _ _ _ _ _ _ _
      | exact ih2 _ _ _ _ _ _ _ _
      | exact keys_Value_right.mono _ _ _ _
      | exact LeO.none _
      | refine LeO.ite ?_ ?_
      | refine LeO.bind ?_ (fun _ => ?_)
    · intro y0 y1 y2 y3 y4 y5 y6 y7 y8
      unfold keys_Put.l2
      repeat' first
      | (with_reducible exact ih0 _ _ _ _)
      | (with_reducible exact ih1 _ _ _ _ _ _ _ _ _)
      | (with_reducible exact ih2 _ _ _ _ _ _ _ _)
      | (with_reducible exact keys_Value_right.mono _ _ _ _)
      | (with_reducible exact LeO.refl _)
      | (with_reducible exact LeO.none _)
      | (with_reducible refine LeO.ite ?_ ?_)
      | (with_reducible refine LeO.bind ?_ (fun _ => ?_))
      | exact ih0 _ _ _ _
      | exact ih1 _ _ _ _ _ _ _ _ _
      | exact ih2 _ _ _ _ _ _ _ _
      | exact keys_Value_right.mono _ _ _ _
      | exact LeO.none _
      | refine LeO.ite ?_ ?_
      | refine LeO.bind ?_ (fun _ => ?_)
    · intro y0 y1 y2 y3 y4 y5 y6 y7
      unfold keys_Put.l1
      repeat' first
      | (with_reducible exact ih0 _ _ _ _)
      | (with_reducible exact ih1 _ _ _ _ _ _ _ _ _)
      | (with_reducible exact ih2 _ _ _ _ _ _ _ _)
      | (with_reducible exact keys_Value_right.mono _ _ _ _)
      | (with_reducible exact LeO.refl _)
      | (with_reducible exact LeO.none _)
      | (with_reducible refine LeO.ite ?_ ?_)
      | (with_reducible refine LeO.bind ?_ (fun _ => ?_))
      | exact ih0 _ _ _ _
      | exact ih1 _ _ _ _ _ _ _ _ _
      | exact ih2 _ _ _ _ _ _ _ _
      | exact keys_Value_right.mono _ _ _ _
      | exact LeO.none _
      | refine LeO.ite ?_ ?_
      | refine LeO.bind ?_ (fun _ => ?_)
theorem keys_Put.mono : ∀ a0 k, LeO (keys_Put.f k a0) (keys_Put.f (k + 1) a0) := by
  intro a0 k
  obtain ⟨ih0, ih1, ih2⟩ := keys_Put.mono_l k
  unfold keys_Put.f
  repeat' first
      | (with_reducible exact ih0 _ _ _ _)
      | (with_reducible exact ih1 _ _ _ _ _ _ _ _ _)
      | (with_reducible exact ih2 _ _ _ _ _ _ _ _)
      | (with_reducible exact keys_Value_right.mono _ _ _ _)
      | (with_reducible exact LeO.refl _)
      | (with_reducible exact LeO.none _)
      | (with_reducible refine LeO.ite ?_ ?_)
      | (with_reducible refine LeO.bind ?_ (fun _ => ?_))
      | exact ih0 _ _ _ _
      | exact ih1 _ _ _ _ _ _ _ _ _
      | exact ih2 _ _ _ _ _ _ _ _
      | exact keys_Value_right.mono _ _ _ _
      | exact LeO.none _
      | refine LeO.ite ?_ ?_
      | refine LeO.bind ?_ (fun _ => ?_)
set_option maxHeartbeats 8000000 in
set_option maxRecDepth 100000 in
theorem keys_Put.calls (k : Nat) (A0 : Option Addr) (c0 : Nat) (l0 : List (S46)) (r1 : ByteArray) (r2 : Int) (w : World) (hr0 : Kd.C k46 w A0 l0.length l0) (hc0 : l0.length ≤ c0) (h : keys_Put.f k l0 = some (r1, r2)) :
    Calls Tryd.prog 14 #[.slice A0 l0.length c0] w fun e w' => e = .returned (.tuple #[.string r1, .int .i64 r2]) ∧ Below w.heap.size w w' := by
  have hu46 := Tryd.underlying46
  have HR0 := Aside0.mk hr0
  have HC0 := Aside0.mk hc0
  clear hr0 hc0
  have HB := Aside0.mk (Below.refl w.heap.size w)
  have H : (keys_Put.l0 k ([] : List Int) l0 (l0.length : Int) 0) = some (r1, r2) := h
  clear h
  have H' := Aside0.mk H
  clear H
  go_enter Tryd.func14, Tryd.ntmps14
  go_wp2
  go_loopg [4, 12] k (fun kq v4 v12 w' => ∃ (x4_1 : List Int) (x12_1 : Int), v12 = .int .i64 x12_1 ∧ Aside0 (keys_Put.l0 kq x4_1 l0 (l0.length : Int) x12_1 = some (r1, r2)) ∧ Aside0 (kq ≤ k) ∧ Aside0 (Kd.R (Kd.int .u8) 5 w' w.heap.size (fun _ => True) v4 x4_1) ∧ Aside0 (Below w.heap.size w w'))
  case atStart => exact ⟨(([] : List Int)), (0), (by first | rfl | (simp; done) | (simp [MyBase.ne_nil]; done) | (simp [*]; done)), H', ⟨Nat.le_refl _⟩, ⟨by first | exact Kd.R_nil _ _ _ _ _ | exact Kd.N_nil _ _ _ _ _ | exact Kd.V_nil _ _ _ _ _ | exact Kd.Q_nil _ _ _ _ _ | exact Kd.S_nil _ _ _ _ _⟩, ⟨by repeat (first | (with_reducible first | exact HB.out | apply below_alloc | apply pw_below_drewN | apply below_drew1) | exact HB.out)⟩⟩
  case round =>
    clear H'
    try clear c1
    obtain ⟨x4_1, x12_1, rfl, HA, HK1, HO_4, HB⟩ := hrel
    cases gk with
    | zero => exact absurd HA.out (by simp [keys_Put.l0])
    | succ k1 =>
      have H := HA.out
      clear HA
      simp only [keys_Put.l0] at H
      by_cases c2 : x12_1 < (l0.length : Int)
      · rw [if_pos c2] at H
        have c2b0 : decide (x12_1 < (l0.length : Int)) = true := decide_eq_true c2
        clear c2
        by_cases c3 : 0 ≤ x12_1
        · rw [if_pos c3] at H
          have c3b0 : decide (0 ≤ x12_1) = true := decide_eq_true c3
          clear c3
          by_cases c4 : x12_1 < (l0.length : Int)
          · rw [if_pos c4] at H
            have c4b0 : decide (x12_1 < (l0.length : Int)) = true := decide_eq_true c4
            clear c4
            replace H := Option.bind_eq_some_iff.mp H
            obtain ⟨t130, A50, H⟩ := H
            replace H : (if t130 = 0 then (if ((rd_T46 l0 x12_1).f2 = true) then (if x4_1.length < 140737488355328 then (keys_Put.l2 k1 (x4_1 ++ [32]) l0 (l0.length : Int) x12_1 (((rd_T46 l0 x12_1).f0).size : Int) 0 ((rd_T46 l0 x12_1).f0) ((rd_T46 l0 x12_1).f1) ((rd_T46 l0 x12_1).f2)) else (none)) else (if x4_1.length < 140737488355328 then (keys_Put.l1 k1 (x4_1 ++ [16]) 5 l0 (l0.length : Int) x12_1 ((rd_T46 l0 x12_1).f0) ((rd_T46 l0 x12_1).f1) ((rd_T46 l0 x12_1).f2)) else (none))) else (some ((⟨#[]⟩ : ByteArray), t130))) = some (r1, r2) := H
            have A5 := Aside0.mk A50
            clear A50
            by_cases c6 : t130 = 0
            · rw [if_pos c6] at H
              have c6b0 : (t130 == 0) = true := beq_iff_eq.mpr c6
              have c6b1 : (t130 != 0) = false := bne_eq_false_iff_eq.mpr c6
              clear c6
              obtain ⟨bq7, hbq7⟩ : ∃ b_ : Bool, b_ = ((rd_T46 l0 x12_1).f2) := ⟨_, rfl⟩
              replace H : (if (bq7 = true) then (if x4_1.length < 140737488355328 then (keys_Put.l2 k1 (x4_1 ++ [32]) l0 (l0.length : Int) x12_1 (((rd_T46 l0 x12_1).f0).size : Int) 0 ((rd_T46 l0 x12_1).f0) ((rd_T46 l0 x12_1).f1) bq7) else (none)) else (if x4_1.length < 140737488355328 then (keys_Put.l1 k1 (x4_1 ++ [16]) 5 l0 (l0.length : Int) x12_1 ((rd_T46 l0 x12_1).f0) ((rd_T46 l0 x12_1).f1) bq7) else (none))) = some (r1, r2) := by rw [← hbq7] at H; exact H
              have Nbq7 := Aside0.mk hbq7
              clear hbq7
              by_cases c8 : (bq7 = true)
              · subst c8
                have H1 : (if x4_1.length < 140737488355328 then (keys_Put.l2 k1 (x4_1 ++ [32]) l0 (l0.length : Int) x12_1 (((rd_T46 l0 x12_1).f0).size : Int) 0 ((rd_T46 l0 x12_1).f0) ((rd_T46 l0 x12_1).f1) true) else (none)) = some (r1, r2) := by rw [if_pos rfl] at H; exact H
                clear H
                have H := H1
                clear H1
                by_cases c9 : x4_1.length < 140737488355328
                · rw [if_pos c9] at H
                  have LMc9 := Aside0.mk c9
                  clear c9
                  obtain ⟨y137, hy137⟩ : ∃ y_ : List Int, y_ = (x4_1 ++ [32]) := ⟨_, rfl⟩
                  replace H : (keys_Put.l2 k1 y137 l0 (l0.length : Int) x12_1 (((rd_T46 l0 x12_1).f0).size : Int) 0 ((rd_T46 l0 x12_1).f0) ((rd_T46 l0 x12_1).f1) true) = some (r1, r2) := by first | (rw [hy137]; with_reducible exact H) | (have H2_ := (Option.bind_some _ _).symm.trans H; rw [hy137]; with_reducible exact H2_) | (have H2_ := (Option.bind_some _ _).symm.trans H; with_reducible exact H2_) | with_reducible exact H | (rw [hy137]; exact H) | exact H
                  have Ny137 := Aside0.mk hy137
                  clear hy137
                  have H' := Aside0.mk H
                  clear H
                  have p128 : 0 ≤ (x12_1 : Int) := of_decide_eq_true (by first | (with_reducible assumption) | assumption)
                  have q128 : x12_1 < (l0.length : Int) := of_decide_eq_true (by first | (with_reducible assumption) | assumption)
                  obtain ⟨ad128, e128, hx128_0, hx128_1, hx128_2⟩ := at_T46 HR0.out x12_1 p128 q128
                  (try rw [← Nbq7.out] at hx128_2)
                  cases e128
                  replace hx128_0 := (HB.out.cell (World.block_lt_of_cell? w _ hx128_0)).trans hx128_0
                  replace hx128_1 := (HB.out.cell (World.block_lt_of_cell? w _ hx128_1)).trans hx128_1
                  replace hx128_2 := (HB.out.cell (World.block_lt_of_cell? w _ hx128_2)).trans hx128_2
                  replace p128 := eq_true p128
                  replace q128 := eq_true q128
                  go_wp2_with (first | ((with_reducible refine gate_dst (N := 6) rfl ?_); refine box_event ?hg (N := 6) ?hd (cs := #[.string (⟨#[]⟩ : ByteArray), .int .i64 0, .bool false]) (t := 46) ?hr ?_; (case hd => rfl); (case hg => rfl); (case hr => first | (go_simp; done) | (go_simp; rfl)); intro gb129 hg w10 hbox hb; have n0_ := Aside0.mk (Kd.R_below (by (with_reducible repeat (first | apply Kd.R_alloc | apply Kd.R_drewN | apply Kd.R_drew)); exact HO_4.out) hb); have n1_ := Aside0.mk (below_step (by repeat (first | (with_reducible first | exact HB.out | apply below_alloc | apply pw_below_drewN | apply below_drew1) | exact HB.out)) hb); have n2_ := Aside0.mk (hbox); have n3_ := Aside0.mk ((by rw [hg]; exact (below_size (by repeat (first | (with_reducible first | exact HB.out | apply below_alloc | apply pw_below_drewN | apply below_drew1) | exact HB.out))) : w.heap.size ≤ gb129)); have n4_ := Aside0.mk ((by rw [hg]; exact (below_size (by repeat (first | (with_reducible first | exact HB.out | apply below_alloc | apply pw_below_drewN | apply below_drew1) | exact HB.out))) : w.heap.size ≤ gb129)); clear HO_4; clear HB; have HO_4 := n0_; have HB := n1_; have BK129 := n2_; have GW129 := n3_; have GE129 := n4_; clear n0_ n1_ n2_ n3_ n4_; clear hb hbox hg; have hcz11_0 : w10.cell? ⟨gb129, 0, none⟩ = some (.string (⟨#[]⟩ : ByteArray)) := (blk_cell BK129.out 0).trans rfl; have hcz11_1 : w10.cell? ⟨gb129, 1, none⟩ = some (.int .i64 0) := (blk_cell BK129.out 1).trans rfl; have hcz11_2 : w10.cell? ⟨gb129, 2, none⟩ = some (.bool false) := (blk_cell BK129.out 2).trans rfl; have hfz11_0 := blk_frozen BK129.out 0; have hfz11_1 := blk_frozen BK129.out 1; have hfz11_2 := blk_frozen BK129.out 2) | ((with_reducible refine gate_callee (f := 29) rfl ?_); refine goesL_ (some 17) rfl rfl Tryd.func29 (by kernel_rfl) rfl #[.agg #[.string ((rd_T46 l0 x12_1).f0), .int .i64 ((rd_T46 l0 x12_1).f1), .bool true]] rfl (by (try simp only [List.map_toArray, List.map_cons, List.map_nil]); first | done | rfl | (simp only [List.length_drop, List.length_take]; rfl)) ?_; (with_reducible refine (keys_Value_right.calls k1 ((rd_T46 l0 x12_1).f0) ((rd_T46 l0 x12_1).f1) true t130 _ (by first | (with_reducible exact A5.out) | (have z_ := A5.out; (try rw [← Nbq7.out] at z_); exact z_))).mono ?_); rintro e w12 ⟨rfl, hb⟩; refine ⟨_, rfl, ?_⟩; have n0_ := Aside0.mk (Kd.R_below (by (with_reducible repeat (first | apply Kd.R_alloc | apply Kd.R_drewN | apply Kd.R_drew)); exact (Kd.R_mono (Kd.R_far (p := ⟨gb129, 2, none⟩) (Kd.R_far (p := ⟨gb129, 1, none⟩) (Kd.R_far (p := ⟨gb129, 0, none⟩) (Kd.R_types HO_4.out BK129.out (by decide)) (fun _ hk => hk.2) (.string ((rd_T46 l0 x12_1).f0))) (fun _ hk => hk.2) (.int .i64 ((rd_T46 l0 x12_1).f1))) (fun _ hk => hk.2) (.bool true)) (fun _ h_ => h_.1))) hb); have n1_ := Aside0.mk (blk_below (g := gb129) (o := .cells #[.string ((rd_T46 l0 x12_1).f0), .int .i64 ((rd_T46 l0 x12_1).f1), .bool true] 46 (0, 0)) (by (with_reducible repeat (first | refine blk_drewN ?_ _ | refine blk_drew ?_ | refine blk_alloc ?_ _)); refine blk_put (cs := #[.string ((rd_T46 l0 x12_1).f0), .int .i64 ((rd_T46 l0 x12_1).f1), .bool false]) ?_ 2 _ rfl; (with_reducible repeat (first | refine blk_drewN ?_ _ | refine blk_drew ?_ | refine blk_alloc ?_ _)); refine blk_put (cs := #[.string ((rd_T46 l0 x12_1).f0), .int .i64 0, .bool false]) ?_ 1 _ rfl; (with_reducible repeat (first | refine blk_drewN ?_ _ | refine blk_drew ?_ | refine blk_alloc ?_ _)); refine blk_put (cs := #[.string (⟨#[]⟩ : ByteArray), .int .i64 0, .bool false]) ?_ 0 _ rfl; (with_reducible repeat (first | refine blk_drewN ?_ _ | refine blk_drew ?_ | refine blk_alloc ?_ _)); exact BK129.out) hb); have n2_ := Aside0.mk (below_step (by repeat (first | (with_reducible first | exact HB.out | apply below_alloc | apply pw_below_drewN | apply below_drew1 | refine below_set ?_ GE129.out) | exact HB.out)) hb); clear HO_4; clear BK129; clear HB; have HO_4 := n0_; have BK129 := n1_; have HB := n2_; clear n0_ n1_ n2_; (try clear hb); (try clear hb2); (try clear hk); (try clear hi); have hcz13_0 : w12.cell? ⟨gb129, 0, none⟩ = some (.string ((rd_T46 l0 x12_1).f0)) := (blk_cell BK129.out 0).trans rfl; have hcz13_1 : w12.cell? ⟨gb129, 1, none⟩ = some (.int .i64 ((rd_T46 l0 x12_1).f1)) := (blk_cell BK129.out 1).trans rfl; have hcz13_2 : w12.cell? ⟨gb129, 2, none⟩ = some (.bool true) := (blk_cell BK129.out 2).trans rfl; have hfz13_0 := blk_frozen BK129.out 0; have hfz13_1 := blk_frozen BK129.out 1; have hfz13_2 := blk_frozen BK129.out 2) | ((with_reducible refine gate_builtin (b := .append) (xs := #[.tmp 41, .tmp 42]) rfl ?_); at_builtin; refine Kd.R_append (Kd.int .u8) (w0 := w) w.heap.size rfl (.tmp 41) (.tmp 42) 52 5 (.int .u8 0) 1 rfl Tryd.underlying52 info5 rfl (by decide) (by omega) u4 x4_1 32 [.int .u8 32] (fun _ => True) (fun _ => False) rfl rfl ?aP (fun _ hk => hk.elim) ?aF ?aO ?aB ?aS ?aL ?_; (case aP => exact rfl); (case aB => exact (by repeat (first | (with_reducible first | exact HB.out | apply below_alloc | apply pw_below_drewN | apply below_drew1 | refine below_set ?_ GE129.out) | exact HB.out))); (case aF => exact (fun _ _ => trivial)); (case aO => exact (by (with_reducible repeat (first | apply Kd.R_alloc | apply Kd.R_drewN | apply Kd.R_drew)); exact HO_4.out)); (case aS => exact (below_size (by repeat (first | (with_reducible first | exact HB.out | apply below_alloc | apply pw_below_drewN | apply below_drew1 | refine below_set ?_ GE129.out) | exact HB.out)))); (case aL => have := LMc9.out; omega); intro v138 w14 ho hb hg hat; rw [← Ny137.out] at ho; have n0_ := Aside0.mk (blk_grown (g := gb129) (o := .cells #[.string ((rd_T46 l0 x12_1).f0), .int .i64 ((rd_T46 l0 x12_1).f1), .bool true] 46 (0, 0)) (by (with_reducible repeat (first | refine blk_drewN ?_ _ | refine blk_drew ?_ | refine blk_alloc ?_ _)); exact BK129.out) hg (Kd.R_ne HO_4.out BK129.out (by decide))); have n1_ := Aside0.mk (hb); have n2_ := Aside0.mk (ho); clear BK129; clear HB; clear HO_4; have BK129 := n0_; have HB := n1_; have HO139 := n2_; clear n0_ n1_ n2_; clear ho hb hg hat; have hcz15_0 : w14.cell? ⟨gb129, 0, none⟩ = some (.string ((rd_T46 l0 x12_1).f0)) := (blk_cell BK129.out 0).trans rfl; have hcz15_1 : w14.cell? ⟨gb129, 1, none⟩ = some (.int .i64 ((rd_T46 l0 x12_1).f1)) := (blk_cell BK129.out 1).trans rfl; have hcz15_2 : w14.cell? ⟨gb129, 2, none⟩ = some (.bool true) := (blk_cell BK129.out 2).trans rfl; have hfz15_0 := blk_frozen BK129.out 0; have hfz15_1 := blk_frozen BK129.out 1; have hfz15_2 := blk_frozen BK129.out 2))
                  go_loopg [4, 47] k1 (fun kq v4 v47 w' => ∃ (x4_2 : List Int) (x47_2 : Int), v47 = .int .i64 x47_2 ∧ Aside0 (keys_Put.l2 kq x4_2 l0 (l0.length : Int) x12_1 (((rd_T46 l0 x12_1).f0).size : Int) x47_2 ((rd_T46 l0 x12_1).f0) ((rd_T46 l0 x12_1).f1) true = some (r1, r2)) ∧ Aside0 (kq ≤ k1) ∧ Aside0 (Kd.R (Kd.int .u8) 5 w' w.heap.size (fun _ => True) v4 x4_2) ∧ Aside0 (w'.heap[gb129]? = some (.cells #[.string ((rd_T46 l0 x12_1).f0), .int .i64 ((rd_T46 l0 x12_1).f1), .bool true] 46 (0, 0))) ∧ Aside0 (Below w.heap.size w w'))
                  case atStart => exact ⟨(y137), (0), (by first | rfl | (simp; done) | (simp [MyBase.ne_nil]; done) | (simp [*]; done)), H', ⟨Nat.le_refl _⟩, ⟨by (with_reducible repeat (first | apply Kd.R_alloc | apply Kd.R_drewN | apply Kd.R_drew)); exact HO139.out⟩, ⟨by (with_reducible repeat (first | refine blk_drewN ?_ _ | refine blk_drew ?_ | refine blk_alloc ?_ _)); exact BK129.out⟩, ⟨by repeat (first | (with_reducible first | exact HB.out | apply below_alloc | apply pw_below_drewN | apply below_drew1 | refine below_set ?_ GE129.out) | exact HB.out)⟩⟩
                  case round =>
                    clear H'
                    try clear c1
                    try clear p1
                    try clear q1
                    try clear hx1
                    try clear c2
                    try clear c2b0
                    try clear p2
                    try clear c3
                    try clear c3b0
                    try clear c4
                    try clear c4b0
                    try clear c6
                    try clear c6b0
                    try clear c6b1
                    try clear q7
                    try clear c8
                    try clear c9
                    try clear p12
                    try clear q12
                    try clear hx12
                    try clear c14
                    try clear hcz11_0
                    try clear hcz11_1
                    try clear hcz11_2
                    try clear hcz13_0
                    try clear hcz13_1
                    try clear hcz13_2
                    try clear hcz15_0
                    try clear hcz15_1
                    try clear hcz15_2
                    try clear hfz11_0
                    try clear hfz11_1
                    try clear hfz11_2
                    try clear hfz13_0
                    try clear hfz13_1
                    try clear hfz13_2
                    try clear hfz15_0
                    try clear hfz15_1
                    try clear hfz15_2
                    try clear hx128_0
                    try clear hx128_1
                    try clear hx128_2
                    try clear p128
                    try clear q128
                    obtain ⟨x4_2, x47_2, rfl, HA, HK2, HO_4, BK129, HB⟩ := hrel
                    cases gk with
                    | zero => exact absurd HA.out (by simp [keys_Put.l2])
                    | succ k2 =>
                      have H := HA.out
                      clear HA
                      simp only [keys_Put.l2] at H
                      by_cases c16 : x47_2 < (((rd_T46 l0 x12_1).f0).size : Int)
                      · rw [if_pos c16] at H
                        have c16b0 : decide (x47_2 < (((rd_T46 l0 x12_1).f0).size : Int)) = true := decide_eq_true c16
                        clear c16
                        by_cases c17 : 0 ≤ x47_2
                        · rw [if_pos c17] at H
                          have c17b0 : decide (0 ≤ x47_2) = true := decide_eq_true c17
                          clear c17
                          by_cases c18 : x47_2 < (((rd_T46 l0 x12_1).f0).size : Int)
                          · rw [if_pos c18] at H
                            have c18b0 : decide (x47_2 < (((rd_T46 l0 x12_1).f0).size : Int)) = true := decide_eq_true c18
                            clear c18
                            by_cases c20 : x4_2.length < 140737488355328
                            · rw [if_pos c20] at H
                              have LMc20 := Aside0.mk c20
                              clear c20
                              obtain ⟨y140, hy140⟩ : ∃ y_ : List Int, y_ = (x4_2 ++ [bt ((rd_T46 l0 x12_1).f0) x47_2]) := ⟨_, rfl⟩
                              replace H : (if (bt ((rd_T46 l0 x12_1).f0) x47_2) = 0 then (if y140.length < 140737488355328 then (keys_Put.l2 k2 (y140 ++ [255]) l0 (l0.length : Int) x12_1 (((rd_T46 l0 x12_1).f0).size : Int) (wrap64 (x47_2 + 1)) ((rd_T46 l0 x12_1).f0) ((rd_T46 l0 x12_1).f1) true) else (none)) else (keys_Put.l2 k2 y140 l0 (l0.length : Int) x12_1 (((rd_T46 l0 x12_1).f0).size : Int) (wrap64 (x47_2 + 1)) ((rd_T46 l0 x12_1).f0) ((rd_T46 l0 x12_1).f1) true)) = some (r1, r2) := by first | (rw [hy140]; with_reducible exact H) | (have H2_ := (Option.bind_some _ _).symm.trans H; rw [hy140]; with_reducible exact H2_) | (have H2_ := (Option.bind_some _ _).symm.trans H; with_reducible exact H2_) | with_reducible exact H | (rw [hy140]; exact H) | exact H
                              have Ny140 := Aside0.mk hy140
                              clear hy140
                              by_cases c22 : (bt ((rd_T46 l0 x12_1).f0) x47_2) = 0
                              · rw [if_pos c22] at H
                                have c22b0 : ((bt ((rd_T46 l0 x12_1).f0) x47_2) == 0) = true := beq_iff_eq.mpr c22
                                have c22b1 : ((bt ((rd_T46 l0 x12_1).f0) x47_2) != 0) = false := bne_eq_false_iff_eq.mpr c22
                                clear c22
                                by_cases c23 : y140.length < 140737488355328
                                · rw [if_pos c23] at H
                                  have LMc23 := Aside0.mk c23
                                  clear c23
                                  obtain ⟨y143, hy143⟩ : ∃ y_ : List Int, y_ = (y140 ++ [255]) := ⟨_, rfl⟩
                                  replace H : (keys_Put.l2 k2 y143 l0 (l0.length : Int) x12_1 (((rd_T46 l0 x12_1).f0).size : Int) (wrap64 (x47_2 + 1)) ((rd_T46 l0 x12_1).f0) ((rd_T46 l0 x12_1).f1) true) = some (r1, r2) := by first | (rw [hy143]; with_reducible exact H) | (have H2_ := (Option.bind_some _ _).symm.trans H; rw [hy143]; with_reducible exact H2_) | (have H2_ := (Option.bind_some _ _).symm.trans H; with_reducible exact H2_) | with_reducible exact H | (rw [hy143]; exact H) | exact H
                                  have Ny143 := Aside0.mk hy143
                                  clear hy143
                                  have H' := Aside0.mk H
                                  clear H
                                  have hcz24_0 : wr.cell? ⟨gb129, 0, none⟩ = some (.string ((rd_T46 l0 x12_1).f0)) := (blk_cell BK129.out 0).trans rfl
                                  have hcz24_1 : wr.cell? ⟨gb129, 1, none⟩ = some (.int .i64 ((rd_T46 l0 x12_1).f1)) := (blk_cell BK129.out 1).trans rfl
                                  have hcz24_2 : wr.cell? ⟨gb129, 2, none⟩ = some (.bool true) := (blk_cell BK129.out 2).trans rfl
                                  have hfz24_0 := blk_frozen BK129.out 0
                                  have hfz24_1 := blk_frozen BK129.out 1
                                  have hfz24_2 := blk_frozen BK129.out 2
                                  have p19 : 0 ≤ (x47_2 : Int) := of_decide_eq_true (by first | (with_reducible assumption) | assumption)
                                  have q19 : x47_2 < (((rd_T46 l0 x12_1).f0).size : Int) := of_decide_eq_true (by first | (with_reducible assumption) | assumption)
                                  have hx19 := bt_at ((rd_T46 l0 x12_1).f0) x47_2
                                  replace p19 := eq_true p19
                                  replace q19 := eq_true q19
                                  go_wp2_with (first | ((with_reducible refine gate_builtin (b := .append) (xs := #[.tmp 50, .tmp 55]) rfl ?_); at_builtin; refine Kd.R_append (Kd.int .u8) (w0 := w) w.heap.size rfl (.tmp 50) (.tmp 55) 52 5 (.int .u8 0) 1 rfl Tryd.underlying52 info5 rfl (by decide) (by omega) u4 x4_2 (bt ((rd_T46 l0 x12_1).f0) x47_2) [.int .u8 (bt ((rd_T46 l0 x12_1).f0) x47_2)] (fun _ => True) (fun _ => False) rfl rfl ?aP (fun _ hk => hk.elim) ?aF ?aO ?aB ?aS ?aL ?_; (case aP => exact rfl); (case aB => exact (by repeat (first | (with_reducible first | exact HB.out | apply below_alloc | apply pw_below_drewN | apply below_drew1 | refine below_set ?_ GE129.out) | exact HB.out))); (case aF => exact (fun _ _ => trivial)); (case aO => exact (by (with_reducible repeat (first | apply Kd.R_alloc | apply Kd.R_drewN | apply Kd.R_drew)); exact HO_4.out)); (case aS => exact (below_size (by repeat (first | (with_reducible first | exact HB.out | apply below_alloc | apply pw_below_drewN | apply below_drew1 | refine below_set ?_ GE129.out) | exact HB.out)))); (case aL => have := LMc20.out; omega); intro v141 w25 ho hb hg hat; rw [← Ny140.out] at ho; have n0_ := Aside0.mk (blk_grown (g := gb129) (o := .cells #[.string ((rd_T46 l0 x12_1).f0), .int .i64 ((rd_T46 l0 x12_1).f1), .bool true] 46 (0, 0)) (by (with_reducible repeat (first | refine blk_drewN ?_ _ | refine blk_drew ?_ | refine blk_alloc ?_ _)); exact BK129.out) hg (Kd.R_ne HO_4.out BK129.out (by decide))); have n1_ := Aside0.mk (hb); have n2_ := Aside0.mk (ho); clear BK129; clear HB; clear HO_4; have BK129 := n0_; have HB := n1_; have HO142 := n2_; clear n0_ n1_ n2_; clear ho hb hg hat; have hcz26_0 : w25.cell? ⟨gb129, 0, none⟩ = some (.string ((rd_T46 l0 x12_1).f0)) := (blk_cell BK129.out 0).trans rfl; have hcz26_1 : w25.cell? ⟨gb129, 1, none⟩ = some (.int .i64 ((rd_T46 l0 x12_1).f1)) := (blk_cell BK129.out 1).trans rfl; have hcz26_2 : w25.cell? ⟨gb129, 2, none⟩ = some (.bool true) := (blk_cell BK129.out 2).trans rfl; have hfz26_0 := blk_frozen BK129.out 0; have hfz26_1 := blk_frozen BK129.out 1; have hfz26_2 := blk_frozen BK129.out 2; have p21 : 0 ≤ (x47_2 : Int) := of_decide_eq_true (by first | (with_reducible assumption) | assumption); have q21 : x47_2 < (((rd_T46 l0 x12_1).f0).size : Int) := of_decide_eq_true (by first | (with_reducible assumption) | assumption); have hx21 := bt_at ((rd_T46 l0 x12_1).f0) x47_2; replace p21 := eq_true p21; replace q21 := eq_true q21) | ((with_reducible refine gate_builtin (b := .append) (xs := #[.tmp 62, .tmp 63]) rfl ?_); at_builtin; refine Kd.R_append (Kd.int .u8) (w0 := w) w.heap.size rfl (.tmp 62) (.tmp 63) 52 5 (.int .u8 0) 1 rfl Tryd.underlying52 info5 rfl (by decide) (by omega) v141 y140 255 [.int .u8 255] (fun _ => True) (fun _ => False) rfl rfl ?aP (fun _ hk => hk.elim) ?aF ?aO ?aB ?aS ?aL ?_; (case aP => exact rfl); (case aB => exact (by repeat (first | (with_reducible first | exact HB.out | apply below_alloc | apply pw_below_drewN | apply below_drew1 | refine below_set ?_ GE129.out) | exact HB.out))); (case aF => exact (fun _ _ => trivial)); (case aO => exact (by (with_reducible repeat (first | apply Kd.R_alloc | apply Kd.R_drewN | apply Kd.R_drew)); exact HO142.out)); (case aS => exact (below_size (by repeat (first | (with_reducible first | exact HB.out | apply below_alloc | apply pw_below_drewN | apply below_drew1 | refine below_set ?_ GE129.out) | exact HB.out)))); (case aL => have := LMc23.out; omega); intro v144 w27 ho hb hg hat; rw [← Ny143.out] at ho; have n0_ := Aside0.mk (blk_grown (g := gb129) (o := .cells #[.string ((rd_T46 l0 x12_1).f0), .int .i64 ((rd_T46 l0 x12_1).f1), .bool true] 46 (0, 0)) (by (with_reducible repeat (first | refine blk_drewN ?_ _ | refine blk_drew ?_ | refine blk_alloc ?_ _)); exact BK129.out) hg (Kd.R_ne HO142.out BK129.out (by decide))); have n1_ := Aside0.mk (hb); have n2_ := Aside0.mk (ho); clear BK129; clear HB; clear HO142; have BK129 := n0_; have HB := n1_; have HO145 := n2_; clear n0_ n1_ n2_; clear ho hb hg hat))
                                  go_roundg k2
                                  case measure => have := HK1.out; have := HK2.out; omega
                                  case rel => exact ⟨(y143), (wrap64 (x47_2 + 1)), (by first | rfl | (simp; done) | (simp [MyBase.ne_nil]; done) | (simp [*]; done)), H', ⟨by have := HK1.out; have := HK2.out; omega⟩, ⟨by (with_reducible repeat (first | apply Kd.R_alloc | apply Kd.R_drewN | apply Kd.R_drew)); exact HO145.out⟩, ⟨by (with_reducible repeat (first | refine blk_drewN ?_ _ | refine blk_drew ?_ | refine blk_alloc ?_ _)); exact BK129.out⟩, ⟨by repeat (first | (with_reducible first | exact HB.out | apply below_alloc | apply pw_below_drewN | apply below_drew1 | refine below_set ?_ GE129.out) | exact HB.out)⟩⟩
                                · rw [if_neg c23] at H
                                  exact absurd H (by simp)
                              · rw [if_neg c22] at H
                                have c22b0 : ((bt ((rd_T46 l0 x12_1).f0) x47_2) == 0) = false := beq_eq_false_iff_ne.mpr c22
                                have c22b1 : ((bt ((rd_T46 l0 x12_1).f0) x47_2) != 0) = true := bne_iff_ne.mpr c22
                                have H' := Aside0.mk H
                                clear H
                                have hcz28_0 : wr.cell? ⟨gb129, 0, none⟩ = some (.string ((rd_T46 l0 x12_1).f0)) := (blk_cell BK129.out 0).trans rfl
                                have hcz28_1 : wr.cell? ⟨gb129, 1, none⟩ = some (.int .i64 ((rd_T46 l0 x12_1).f1)) := (blk_cell BK129.out 1).trans rfl
                                have hcz28_2 : wr.cell? ⟨gb129, 2, none⟩ = some (.bool true) := (blk_cell BK129.out 2).trans rfl
                                have hfz28_0 := blk_frozen BK129.out 0
                                have hfz28_1 := blk_frozen BK129.out 1
                                have hfz28_2 := blk_frozen BK129.out 2
                                have p19 : 0 ≤ (x47_2 : Int) := of_decide_eq_true (by first | (with_reducible assumption) | assumption)
                                have q19 : x47_2 < (((rd_T46 l0 x12_1).f0).size : Int) := of_decide_eq_true (by first | (with_reducible assumption) | assumption)
                                have hx19 := bt_at ((rd_T46 l0 x12_1).f0) x47_2
                                replace p19 := eq_true p19
                                replace q19 := eq_true q19
                                go_wp2_with (first | ((with_reducible refine gate_builtin (b := .append) (xs := #[.tmp 50, .tmp 55]) rfl ?_); at_builtin; refine Kd.R_append (Kd.int .u8) (w0 := w) w.heap.size rfl (.tmp 50) (.tmp 55) 52 5 (.int .u8 0) 1 rfl Tryd.underlying52 info5 rfl (by decide) (by omega) u4 x4_2 (bt ((rd_T46 l0 x12_1).f0) x47_2) [.int .u8 (bt ((rd_T46 l0 x12_1).f0) x47_2)] (fun _ => True) (fun _ => False) rfl rfl ?aP (fun _ hk => hk.elim) ?aF ?aO ?aB ?aS ?aL ?_; (case aP => exact rfl); (case aB => exact (by repeat (first | (with_reducible first | exact HB.out | apply below_alloc | apply pw_below_drewN | apply below_drew1 | refine below_set ?_ GE129.out) | exact HB.out))); (case aF => exact (fun _ _ => trivial)); (case aO => exact (by (with_reducible repeat (first | apply Kd.R_alloc | apply Kd.R_drewN | apply Kd.R_drew)); exact HO_4.out)); (case aS => exact (below_size (by repeat (first | (with_reducible first | exact HB.out | apply below_alloc | apply pw_below_drewN | apply below_drew1 | refine below_set ?_ GE129.out) | exact HB.out)))); (case aL => have := LMc20.out; omega); intro v141 w29 ho hb hg hat; rw [← Ny140.out] at ho; have n0_ := Aside0.mk (blk_grown (g := gb129) (o := .cells #[.string ((rd_T46 l0 x12_1).f0), .int .i64 ((rd_T46 l0 x12_1).f1), .bool true] 46 (0, 0)) (by (with_reducible repeat (first | refine blk_drewN ?_ _ | refine blk_drew ?_ | refine blk_alloc ?_ _)); exact BK129.out) hg (Kd.R_ne HO_4.out BK129.out (by decide))); have n1_ := Aside0.mk (hb); have n2_ := Aside0.mk (ho); clear BK129; clear HB; clear HO_4; have BK129 := n0_; have HB := n1_; have HO142 := n2_; clear n0_ n1_ n2_; clear ho hb hg hat; have hcz30_0 : w29.cell? ⟨gb129, 0, none⟩ = some (.string ((rd_T46 l0 x12_1).f0)) := (blk_cell BK129.out 0).trans rfl; have hcz30_1 : w29.cell? ⟨gb129, 1, none⟩ = some (.int .i64 ((rd_T46 l0 x12_1).f1)) := (blk_cell BK129.out 1).trans rfl; have hcz30_2 : w29.cell? ⟨gb129, 2, none⟩ = some (.bool true) := (blk_cell BK129.out 2).trans rfl; have hfz30_0 := blk_frozen BK129.out 0; have hfz30_1 := blk_frozen BK129.out 1; have hfz30_2 := blk_frozen BK129.out 2; have p21 : 0 ≤ (x47_2 : Int) := of_decide_eq_true (by first | (with_reducible assumption) | assumption); have q21 : x47_2 < (((rd_T46 l0 x12_1).f0).size : Int) := of_decide_eq_true (by first | (with_reducible assumption) | assumption); have hx21 := bt_at ((rd_T46 l0 x12_1).f0) x47_2; replace p21 := eq_true p21; replace q21 := eq_true q21))
                                go_roundg k2
                                case measure => have := HK1.out; have := HK2.out; omega
                                case rel => exact ⟨(y140), (wrap64 (x47_2 + 1)), (by first | rfl | (simp; done) | (simp [MyBase.ne_nil]; done) | (simp [*]; done)), H', ⟨by have := HK1.out; have := HK2.out; omega⟩, ⟨by (with_reducible repeat (first | apply Kd.R_alloc | apply Kd.R_drewN | apply Kd.R_drew)); exact HO142.out⟩, ⟨by (with_reducible repeat (first | refine blk_drewN ?_ _ | refine blk_drew ?_ | refine blk_alloc ?_ _)); exact BK129.out⟩, ⟨by repeat (first | (with_reducible first | exact HB.out | apply below_alloc | apply pw_below_drewN | apply below_drew1 | refine below_set ?_ GE129.out) | exact HB.out)⟩⟩
                            · rw [if_neg c20] at H
                              exact absurd H (by simp)
                          · rw [if_neg c18] at H
                            exact absurd H (by simp)
                        · rw [if_neg c17] at H
                          exact absurd H (by simp)
                      · rw [if_neg c16] at H
                        have c16b0 : decide (x47_2 < (((rd_T46 l0 x12_1).f0).size : Int)) = false := decide_eq_false c16
                        clear c16
                        obtain ⟨y146, hy146⟩ : ∃ y_ : List Int, y_ = (([0, 1] : List Int)) := ⟨_, rfl⟩
                        replace H : (if x4_2.length + y146.length < 140737488355328 then (keys_Put.l0 k2 (x4_2 ++ y146) l0 (l0.length : Int) (wrap64 (x12_1 + 1))) else (none)) = some (r1, r2) := by first | (rw [hy146]; with_reducible exact H) | (have H2_ := (Option.bind_some _ _).symm.trans H; rw [hy146]; with_reducible exact H2_) | (have H2_ := (Option.bind_some _ _).symm.trans H; with_reducible exact H2_) | with_reducible exact H | (rw [hy146]; exact H) | exact H
                        have Ny146 := Aside0.mk hy146
                        clear hy146
                        by_cases c31 : x4_2.length + y146.length < 140737488355328
                        · rw [if_pos c31] at H
                          have LMc31 := Aside0.mk c31
                          clear c31
                          obtain ⟨y149, hy149⟩ : ∃ y_ : List Int, y_ = (x4_2 ++ y146) := ⟨_, rfl⟩
                          replace H : (keys_Put.l0 k2 y149 l0 (l0.length : Int) (wrap64 (x12_1 + 1))) = some (r1, r2) := by first | (rw [hy149]; with_reducible exact H) | (have H2_ := (Option.bind_some _ _).symm.trans H; rw [hy149]; with_reducible exact H2_) | (have H2_ := (Option.bind_some _ _).symm.trans H; with_reducible exact H2_) | with_reducible exact H | (rw [hy149]; exact H) | exact H
                          have Ny149 := Aside0.mk hy149
                          clear hy149
                          have H' := Aside0.mk H
                          clear H
                          go_wp2_with (first | ((with_reducible refine gate_dst (N := 67) rfl ?_); refine Kd.R_lit (Kd.int .u8) _ 5 ?hg (N := 67) ?hd (xs := ([0, 1] : List Int)) (inner := [.int .u8 0, .int .u8 1]) (ok := fun _ => True) (okp := fun _ => True) ?hr ?hp (fun _ hk => hk) trivial (Below.refl _ _) (Nat.le_refl _) (by simp) ?_; (case hd => rfl); (case hg => rfl); (case hr => first | (go_simp; done) | (go_simp; rfl)); (case hp => exact (Reps.one (show Kd.M (Kd.int .u8) _ _ _ 0 [.int .u8 0] from rfl) (Reps.one (show Kd.M (Kd.int .u8) _ _ _ 1 [.int .u8 1] from rfl) (Reps.none _ _)))); intro v147 w32 ho33 hb hg_ hnew_; clear hg_ hnew_; (first | rw [← Ny146.out] at ho33 | (simp only [Int.reduceToNat] at ho33; rw [← Ny146.out] at ho33)); have n0_ := Aside0.mk (Kd.R_elder' (by (with_reducible repeat (first | apply Kd.R_alloc | apply Kd.R_drewN | apply Kd.R_drew)); exact HO_4.out) (Kd.R_base ho33) hb); have n1_ := Aside0.mk (Kd.R_lower (Kd.R_new' ho33 (Kd.R_lt (by (with_reducible repeat (first | apply Kd.R_alloc | apply Kd.R_drewN | apply Kd.R_drew)); exact HO_4.out))) (below_size (by repeat (first | (with_reducible first | exact HB.out | apply below_alloc | apply pw_below_drewN | apply below_drew1 | refine below_set ?_ GE129.out) | exact HB.out)))); have n2_ := Aside0.mk (blk_below (g := gb129) (o := .cells #[.string ((rd_T46 l0 x12_1).f0), .int .i64 ((rd_T46 l0 x12_1).f1), .bool true] 46 (0, 0)) (by (with_reducible repeat (first | refine blk_drewN ?_ _ | refine blk_drew ?_ | refine blk_alloc ?_ _)); exact BK129.out) hb); have n3_ := Aside0.mk (below_step (by repeat (first | (with_reducible first | exact HB.out | apply below_alloc | apply pw_below_drewN | apply below_drew1 | refine below_set ?_ GE129.out) | exact HB.out)) hb); clear HO_4; clear BK129; clear HB; have HO_4 := n0_; have HO148 := n1_; have BK129 := n2_; have HB := n3_; clear n0_ n1_ n2_ n3_; clear hb ho33; obtain ⟨Ao35, co35, eo35⟩ := Kd.R_slice HO148.out; subst eo35) | ((with_reducible refine gate_builtin (b := .append) (xs := #[.tmp 66, .tmp 67]) rfl ?_); at_builtin; refine Kd.R_append_rows (Kd.int .u8) (w0 := w) w.heap.size rfl (.tmp 66) (.tmp 67) 52 5 (.int .u8 0) 1 rfl Tryd.underlying52 info5 rfl (by decide) (by omega) u4 x4_2 y146 _ _ _ (fun k_ => some k_ ≠ (.slice Ao35 y146.length co35 : Value).ownBlock) (fun _ => False) rfl rfl ?aO ?aR (fun _ _ h => h) (fun _ h => h.elim) ?aF ?aB ?aS ?aL ?_; (case aR => repeat (first | exact (Kd.R_reads' HO148.out).2.2 | (with_reducible refine Kd.C_alloc ?_ _) | (with_reducible refine Kd.C_drewN ?_ _) | (with_reducible refine Kd.C_drew ?_))); (case aB => exact (by repeat (first | (with_reducible first | exact HB.out | apply below_alloc | apply pw_below_drewN | apply below_drew1 | refine below_set ?_ GE129.out) | exact HB.out))); (case aF => exact (fun k_ hk => Kd.fresh' (Kd.R_lt (by (with_reducible repeat (first | apply Kd.R_alloc | apply Kd.R_drewN | apply Kd.R_drew)); exact HO148.out)) k_ hk)); (case aO => exact (by (with_reducible repeat (first | apply Kd.R_alloc | apply Kd.R_drewN | apply Kd.R_drew)); exact Kd.R_mono HO_4.out (fun _ hk => hk.2))); (case aS => exact (below_size (by repeat (first | (with_reducible first | exact HB.out | apply below_alloc | apply pw_below_drewN | apply below_drew1 | refine below_set ?_ GE129.out) | exact HB.out)))); (case aL => have := LMc31.out; omega); intro v150 w34 ho hb hg hat; rw [← Ny149.out] at ho; have n0_ := Aside0.mk (blk_grown (g := gb129) (o := .cells #[.string ((rd_T46 l0 x12_1).f0), .int .i64 ((rd_T46 l0 x12_1).f1), .bool true] 46 (0, 0)) (by (with_reducible repeat (first | refine blk_drewN ?_ _ | refine blk_drew ?_ | refine blk_alloc ?_ _)); exact BK129.out) hg (Kd.R_ne HO_4.out BK129.out (by decide))); have n1_ := Aside0.mk (Kd.R_after (ok := (fun _ => True)) (by (with_reducible repeat (first | apply Kd.R_alloc | apply Kd.R_drewN | apply Kd.R_drew)); exact HO148.out) hg hat); have n2_ := Aside0.mk (hb); have n3_ := Aside0.mk (ho); clear BK129; clear HO148; clear HB; clear HO_4; have BK129 := n0_; have HO148 := n1_; have HB := n2_; have HO151 := n3_; clear n0_ n1_ n2_ n3_; clear ho hb hg hat))
                          go_roundg k2
                          case measure => have := HK1.out; have := HK2.out; omega
                          case rel => exact ⟨(y149), (wrap64 (x12_1 + 1)), (by first | rfl | (simp; done) | (simp [MyBase.ne_nil]; done) | (simp [*]; done)), H', ⟨by have := HK1.out; have := HK2.out; omega⟩, ⟨by (with_reducible repeat (first | apply Kd.R_alloc | apply Kd.R_drewN | apply Kd.R_drew)); exact Kd.R_mono HO151.out (fun _ hk => trivial)⟩, ⟨by repeat (first | (with_reducible first | exact HB.out | apply below_alloc | apply pw_below_drewN | apply below_drew1 | refine below_set ?_ GE129.out) | exact HB.out)⟩⟩
                        · rw [if_neg c31] at H
                          exact absurd H (by simp)
                · rw [if_neg c9] at H
                  exact absurd H (by simp)
              · replace c8 := Bool.eq_false_iff.mpr c8
                subst c8
                have H1 : (if x4_1.length < 140737488355328 then (keys_Put.l1 k1 (x4_1 ++ [16]) 5 l0 (l0.length : Int) x12_1 ((rd_T46 l0 x12_1).f0) ((rd_T46 l0 x12_1).f1) false) else (none)) = some (r1, r2) := by rw [if_neg (show ¬ (false = true) by decide)] at H; exact H
                clear H
                have H := H1
                clear H1
                by_cases c36 : x4_1.length < 140737488355328
                · rw [if_pos c36] at H
                  have LMc36 := Aside0.mk c36
                  clear c36
                  obtain ⟨y131, hy131⟩ : ∃ y_ : List Int, y_ = (x4_1 ++ [16]) := ⟨_, rfl⟩
                  replace H : (keys_Put.l1 k1 y131 5 l0 (l0.length : Int) x12_1 ((rd_T46 l0 x12_1).f0) ((rd_T46 l0 x12_1).f1) false) = some (r1, r2) := by first | (rw [hy131]; with_reducible exact H) | (have H2_ := (Option.bind_some _ _).symm.trans H; rw [hy131]; with_reducible exact H2_) | (have H2_ := (Option.bind_some _ _).symm.trans H; with_reducible exact H2_) | with_reducible exact H | (rw [hy131]; exact H) | exact H
                  have Ny131 := Aside0.mk hy131
                  clear hy131
                  have H' := Aside0.mk H
                  clear H
                  have p128 : 0 ≤ (x12_1 : Int) := of_decide_eq_true (by first | (with_reducible assumption) | assumption)
                  have q128 : x12_1 < (l0.length : Int) := of_decide_eq_true (by first | (with_reducible assumption) | assumption)
                  obtain ⟨ad128, e128, hx128_0, hx128_1, hx128_2⟩ := at_T46 HR0.out x12_1 p128 q128
                  (try rw [← Nbq7.out] at hx128_2)
                  cases e128
                  replace hx128_0 := (HB.out.cell (World.block_lt_of_cell? w _ hx128_0)).trans hx128_0
                  replace hx128_1 := (HB.out.cell (World.block_lt_of_cell? w _ hx128_1)).trans hx128_1
                  replace hx128_2 := (HB.out.cell (World.block_lt_of_cell? w _ hx128_2)).trans hx128_2
                  replace p128 := eq_true p128
                  replace q128 := eq_true q128
                  go_wp2_with (first | ((with_reducible refine gate_dst (N := 6) rfl ?_); refine box_event ?hg (N := 6) ?hd (cs := #[.string (⟨#[]⟩ : ByteArray), .int .i64 0, .bool false]) (t := 46) ?hr ?_; (case hd => rfl); (case hg => rfl); (case hr => first | (go_simp; done) | (go_simp; rfl)); intro gb129 hg w37 hbox hb; have n0_ := Aside0.mk (Kd.R_below (by (with_reducible repeat (first | apply Kd.R_alloc | apply Kd.R_drewN | apply Kd.R_drew)); exact HO_4.out) hb); have n1_ := Aside0.mk (below_step (by repeat (first | (with_reducible first | exact HB.out | apply below_alloc | apply pw_below_drewN | apply below_drew1) | exact HB.out)) hb); have n2_ := Aside0.mk (hbox); have n3_ := Aside0.mk ((by rw [hg]; exact (below_size (by repeat (first | (with_reducible first | exact HB.out | apply below_alloc | apply pw_below_drewN | apply below_drew1) | exact HB.out))) : w.heap.size ≤ gb129)); have n4_ := Aside0.mk ((by rw [hg]; exact (below_size (by repeat (first | (with_reducible first | exact HB.out | apply below_alloc | apply pw_below_drewN | apply below_drew1) | exact HB.out))) : w.heap.size ≤ gb129)); clear HO_4; clear HB; have HO_4 := n0_; have HB := n1_; have BK129 := n2_; have GW129 := n3_; have GE129 := n4_; clear n0_ n1_ n2_ n3_ n4_; clear hb hbox hg; have hcz38_0 : w37.cell? ⟨gb129, 0, none⟩ = some (.string (⟨#[]⟩ : ByteArray)) := (blk_cell BK129.out 0).trans rfl; have hcz38_1 : w37.cell? ⟨gb129, 1, none⟩ = some (.int .i64 0) := (blk_cell BK129.out 1).trans rfl; have hcz38_2 : w37.cell? ⟨gb129, 2, none⟩ = some (.bool false) := (blk_cell BK129.out 2).trans rfl; have hfz38_0 := blk_frozen BK129.out 0; have hfz38_1 := blk_frozen BK129.out 1; have hfz38_2 := blk_frozen BK129.out 2) | ((with_reducible refine gate_callee (f := 29) rfl ?_); refine goesL_ (some 17) rfl rfl Tryd.func29 (by kernel_rfl) rfl #[.agg #[.string ((rd_T46 l0 x12_1).f0), .int .i64 ((rd_T46 l0 x12_1).f1), .bool false]] rfl (by (try simp only [List.map_toArray, List.map_cons, List.map_nil]); first | done | rfl | (simp only [List.length_drop, List.length_take]; rfl)) ?_; (with_reducible refine (keys_Value_right.calls k1 ((rd_T46 l0 x12_1).f0) ((rd_T46 l0 x12_1).f1) false t130 _ (by first | (with_reducible exact A5.out) | (have z_ := A5.out; (try rw [← Nbq7.out] at z_); exact z_))).mono ?_); rintro e w39 ⟨rfl, hb⟩; refine ⟨_, rfl, ?_⟩; have n0_ := Aside0.mk (Kd.R_below (by (with_reducible repeat (first | apply Kd.R_alloc | apply Kd.R_drewN | apply Kd.R_drew)); exact (Kd.R_mono (Kd.R_far (p := ⟨gb129, 2, none⟩) (Kd.R_far (p := ⟨gb129, 1, none⟩) (Kd.R_far (p := ⟨gb129, 0, none⟩) (Kd.R_types HO_4.out BK129.out (by decide)) (fun _ hk => hk.2) (.string ((rd_T46 l0 x12_1).f0))) (fun _ hk => hk.2) (.int .i64 ((rd_T46 l0 x12_1).f1))) (fun _ hk => hk.2) (.bool false)) (fun _ h_ => h_.1))) hb); have n1_ := Aside0.mk (blk_below (g := gb129) (o := .cells #[.string ((rd_T46 l0 x12_1).f0), .int .i64 ((rd_T46 l0 x12_1).f1), .bool false] 46 (0, 0)) (by (with_reducible repeat (first | refine blk_drewN ?_ _ | refine blk_drew ?_ | refine blk_alloc ?_ _)); refine blk_put (cs := #[.string ((rd_T46 l0 x12_1).f0), .int .i64 ((rd_T46 l0 x12_1).f1), .bool false]) ?_ 2 _ rfl; (with_reducible repeat (first | refine blk_drewN ?_ _ | refine blk_drew ?_ | refine blk_alloc ?_ _)); refine blk_put (cs := #[.string ((rd_T46 l0 x12_1).f0), .int .i64 0, .bool false]) ?_ 1 _ rfl; (with_reducible repeat (first | refine blk_drewN ?_ _ | refine blk_drew ?_ | refine blk_alloc ?_ _)); refine blk_put (cs := #[.string (⟨#[]⟩ : ByteArray), .int .i64 0, .bool false]) ?_ 0 _ rfl; (with_reducible repeat (first | refine blk_drewN ?_ _ | refine blk_drew ?_ | refine blk_alloc ?_ _)); exact BK129.out) hb); have n2_ := Aside0.mk (below_step (by repeat (first | (with_reducible first | exact HB.out | apply below_alloc | apply pw_below_drewN | apply below_drew1 | refine below_set ?_ GE129.out) | exact HB.out)) hb); clear HO_4; clear BK129; clear HB; have HO_4 := n0_; have BK129 := n1_; have HB := n2_; clear n0_ n1_ n2_; (try clear hb); (try clear hb2); (try clear hk); (try clear hi); have hcz40_0 : w39.cell? ⟨gb129, 0, none⟩ = some (.string ((rd_T46 l0 x12_1).f0)) := (blk_cell BK129.out 0).trans rfl; have hcz40_1 : w39.cell? ⟨gb129, 1, none⟩ = some (.int .i64 ((rd_T46 l0 x12_1).f1)) := (blk_cell BK129.out 1).trans rfl; have hcz40_2 : w39.cell? ⟨gb129, 2, none⟩ = some (.bool false) := (blk_cell BK129.out 2).trans rfl; have hfz40_0 := blk_frozen BK129.out 0; have hfz40_1 := blk_frozen BK129.out 1; have hfz40_2 := blk_frozen BK129.out 2) | ((with_reducible refine gate_builtin (b := .append) (xs := #[.tmp 24, .tmp 25]) rfl ?_); at_builtin; refine Kd.R_append (Kd.int .u8) (w0 := w) w.heap.size rfl (.tmp 24) (.tmp 25) 52 5 (.int .u8 0) 1 rfl Tryd.underlying52 info5 rfl (by decide) (by omega) u4 x4_1 16 [.int .u8 16] (fun _ => True) (fun _ => False) rfl rfl ?aP (fun _ hk => hk.elim) ?aF ?aO ?aB ?aS ?aL ?_; (case aP => exact rfl); (case aB => exact (by repeat (first | (with_reducible first | exact HB.out | apply below_alloc | apply pw_below_drewN | apply below_drew1 | refine below_set ?_ GE129.out) | exact HB.out))); (case aF => exact (fun _ _ => trivial)); (case aO => exact (by (with_reducible repeat (first | apply Kd.R_alloc | apply Kd.R_drewN | apply Kd.R_drew)); exact HO_4.out)); (case aS => exact (below_size (by repeat (first | (with_reducible first | exact HB.out | apply below_alloc | apply pw_below_drewN | apply below_drew1 | refine below_set ?_ GE129.out) | exact HB.out)))); (case aL => have := LMc36.out; omega); intro v132 w41 ho hb hg hat; rw [← Ny131.out] at ho; have n0_ := Aside0.mk (blk_grown (g := gb129) (o := .cells #[.string ((rd_T46 l0 x12_1).f0), .int .i64 ((rd_T46 l0 x12_1).f1), .bool false] 46 (0, 0)) (by (with_reducible repeat (first | refine blk_drewN ?_ _ | refine blk_drew ?_ | refine blk_alloc ?_ _)); exact BK129.out) hg (Kd.R_ne HO_4.out BK129.out (by decide))); have n1_ := Aside0.mk (hb); have n2_ := Aside0.mk (ho); clear BK129; clear HB; clear HO_4; have BK129 := n0_; have HB := n1_; have HO133 := n2_; clear n0_ n1_ n2_; clear ho hb hg hat))
                  go_loopg [4, 8] k1 (fun kq v4 v8 w' => ∃ (x4_2 : List Int) (x8_2 : Int), v8 = .int .i64 x8_2 ∧ Aside0 (keys_Put.l1 kq x4_2 x8_2 l0 (l0.length : Int) x12_1 ((rd_T46 l0 x12_1).f0) ((rd_T46 l0 x12_1).f1) false = some (r1, r2)) ∧ Aside0 (kq ≤ k1) ∧ Aside0 (Kd.R (Kd.int .u8) 5 w' w.heap.size (fun _ => True) v4 x4_2) ∧ Aside0 (w'.heap[gb129]? = some (.cells #[.string ((rd_T46 l0 x12_1).f0), .int .i64 ((rd_T46 l0 x12_1).f1), .bool false] 46 (0, 0))) ∧ Aside0 (Below w.heap.size w w'))
                  case atStart => exact ⟨(y131), (5), (by first | rfl | (simp; done) | (simp [MyBase.ne_nil]; done) | (simp [*]; done)), H', ⟨Nat.le_refl _⟩, ⟨by (with_reducible repeat (first | apply Kd.R_alloc | apply Kd.R_drewN | apply Kd.R_drew)); exact HO133.out⟩, ⟨by (with_reducible repeat (first | refine blk_drewN ?_ _ | refine blk_drew ?_ | refine blk_alloc ?_ _)); exact BK129.out⟩, ⟨by repeat (first | (with_reducible first | exact HB.out | apply below_alloc | apply pw_below_drewN | apply below_drew1 | refine below_set ?_ GE129.out) | exact HB.out)⟩⟩
                  case round =>
                    clear H'
                    try clear c1
                    try clear p1
                    try clear q1
                    try clear hx1
                    try clear c2
                    try clear c2b0
                    try clear p2
                    try clear q2
                    try clear hx2
                    try clear c3
                    try clear c3b0
                    try clear c4
                    try clear c4b0
                    try clear c6
                    try clear c6b0
                    try clear c6b1
                    try clear p6
                    try clear q7
                    try clear c8
                    try clear c9
                    try clear p12
                    try clear q12
                    try clear hx12
                    try clear c14
                    try clear c16
                    try clear c16b0
                    try clear c17
                    try clear c17b0
                    try clear c18
                    try clear c18b0
                    try clear p19
                    try clear q19
                    try clear hx19
                    try clear c20
                    try clear p21
                    try clear q21
                    try clear hx21
                    try clear c22
                    try clear c22b0
                    try clear c22b1
                    try clear c23
                    try clear c29
                    try clear c31
                    try clear c36
                    try clear hcz11_0
                    try clear hcz11_1
                    try clear hcz11_2
                    try clear hcz13_0
                    try clear hcz13_1
                    try clear hcz13_2
                    try clear hcz15_0
                    try clear hcz15_1
                    try clear hcz15_2
                    try clear hcz24_0
                    try clear hcz24_1
                    try clear hcz24_2
                    try clear hcz26_0
                    try clear hcz26_1
                    try clear hcz26_2
                    try clear hcz28_0
                    try clear hcz28_1
                    try clear hcz28_2
                    try clear hcz30_0
                    try clear hcz30_1
                    try clear hcz30_2
                    try clear hcz38_0
                    try clear hcz38_1
                    try clear hcz38_2
                    try clear hcz40_0
                    try clear hcz40_1
                    try clear hcz40_2
                    try clear hfz11_0
                    try clear hfz11_1
                    try clear hfz11_2
                    try clear hfz13_0
                    try clear hfz13_1
                    try clear hfz13_2
                    try clear hfz15_0
                    try clear hfz15_1
                    try clear hfz15_2
                    try clear hfz24_0
                    try clear hfz24_1
                    try clear hfz24_2
                    try clear hfz26_0
                    try clear hfz26_1
                    try clear hfz26_2
                    try clear hfz28_0
                    try clear hfz28_1
                    try clear hfz28_2
                    try clear hfz30_0
                    try clear hfz30_1
                    try clear hfz30_2
                    try clear hfz38_0
                    try clear hfz38_1
                    try clear hfz38_2
                    try clear hfz40_0
                    try clear hfz40_1
                    try clear hfz40_2
                    try clear hx128_0
                    try clear hx128_1
                    try clear hx128_2
                    try clear p1
                    try clear p12
                    try clear p128
                    try clear p19
                    try clear p2
                    try clear p21
                    try clear q1
                    try clear q12
                    try clear q128
                    try clear q19
                    try clear q21
                    try clear q7
                    obtain ⟨x4_2, x8_2, rfl, HA, HK2, HO_4, BK129, HB⟩ := hrel
                    cases gk with
                    | zero => exact absurd HA.out (by simp [keys_Put.l1])
                    | succ k2 =>
                      have H := HA.out
                      clear HA
                      simp only [keys_Put.l1] at H
                      by_cases c42 : x8_2 ≥ 0
                      · rw [if_pos c42] at H
                        have c42b0 : decide (0 ≤ x8_2) = true := decide_eq_true c42
                        clear c42
                        obtain ⟨ji43, hji43⟩ : ∃ j_ : Int, (wrap64 (8 * x8_2)) = j_ := ⟨_, rfl⟩
                        replace H : (if 0 ≤ (ji43) then (if x4_2.length < 140737488355328 then (keys_Put.l1 k2 (x4_2 ++ [(shr .i64 (wrap64 (((rd_T46 l0 x12_1).f1) + 1099511627776)) (ji43)) % 256]) (wrap64 (x8_2 - 1)) l0 (l0.length : Int) x12_1 ((rd_T46 l0 x12_1).f0) ((rd_T46 l0 x12_1).f1) false) else (none)) else (none)) = some (r1, r2) := by first | (rw [hji43] at H; exact H) | (simp only [hji43] at H ⊢; exact H)
                        have hji43w : (IntKind.i64.wrap (8 * x8_2)) = ji43 := (i64_w _).trans hji43
                        by_cases c44 : 0 ≤ (ji43)
                        · rw [if_pos c44] at H
                          have c44b0 := eq_true c44
                          have c44b1 : decide (0 ≤ (ji43)) = true := decide_eq_true c44
                          clear c44
                          obtain ⟨ji45, hji45⟩ : ∃ j_ : Int, (shr .i64 (wrap64 (((rd_T46 l0 x12_1).f1) + 1099511627776)) (ji43)) = j_ := ⟨_, rfl⟩
                          replace H : (if x4_2.length < 140737488355328 then (keys_Put.l1 k2 (x4_2 ++ [(ji45) % 256]) (wrap64 (x8_2 - 1)) l0 (l0.length : Int) x12_1 ((rd_T46 l0 x12_1).f0) ((rd_T46 l0 x12_1).f1) false) else (none)) = some (r1, r2) := by first | (rw [hji45] at H; exact H) | (simp only [hji45] at H ⊢; exact H)
                          have hji45_ : ((wrap64 (((rd_T46 l0 x12_1).f1) + 1099511627776)) / 2 ^ min (ji43).toNat 64) = ji45 := hji45
                          have hji45z : (ji43) ≤ 64 → ((wrap64 (((rd_T46 l0 x12_1).f1) + 1099511627776)) / 2 ^ (ji43).toNat) = ji45 := shr_small hji45
                          by_cases c46 : x4_2.length < 140737488355328
                          · rw [if_pos c46] at H
                            have LMc46 := Aside0.mk c46
                            clear c46
                            obtain ⟨y134, hy134⟩ : ∃ y_ : List Int, y_ = (x4_2 ++ [(ji45) % 256]) := ⟨_, rfl⟩
                            replace H : (keys_Put.l1 k2 y134 (wrap64 (x8_2 - 1)) l0 (l0.length : Int) x12_1 ((rd_T46 l0 x12_1).f0) ((rd_T46 l0 x12_1).f1) false) = some (r1, r2) := by first | (rw [hy134]; with_reducible exact H) | (have H2_ := (Option.bind_some _ _).symm.trans H; rw [hy134]; with_reducible exact H2_) | (have H2_ := (Option.bind_some _ _).symm.trans H; with_reducible exact H2_) | with_reducible exact H | (rw [hy134]; exact H) | exact H
                            have Ny134 := Aside0.mk hy134
                            clear hy134
                            have H' := Aside0.mk H
                            clear H
                            have hcz47_0 : wr.cell? ⟨gb129, 0, none⟩ = some (.string ((rd_T46 l0 x12_1).f0)) := (blk_cell BK129.out 0).trans rfl
                            have hcz47_1 : wr.cell? ⟨gb129, 1, none⟩ = some (.int .i64 ((rd_T46 l0 x12_1).f1)) := (blk_cell BK129.out 1).trans rfl
                            have hcz47_2 : wr.cell? ⟨gb129, 2, none⟩ = some (.bool false) := (blk_cell BK129.out 2).trans rfl
                            have hfz47_0 := blk_frozen BK129.out 0
                            have hfz47_1 := blk_frozen BK129.out 1
                            have hfz47_2 := blk_frozen BK129.out 2
                            go_wp2_with (first | ((with_reducible refine gate_builtin (b := .append) (xs := #[.tmp 31, .tmp 39]) rfl ?_); at_builtin; refine Kd.R_append (Kd.int .u8) (w0 := w) w.heap.size rfl (.tmp 31) (.tmp 39) 52 5 (.int .u8 0) 1 rfl Tryd.underlying52 info5 rfl (by decide) (by omega) u4 x4_2 ((ji45) % 256) [.int .u8 ((ji45) % 256)] (fun _ => True) (fun _ => False) rfl rfl ?aP (fun _ hk => hk.elim) ?aF ?aO ?aB ?aS ?aL ?_; (case aP => exact rfl); (case aB => exact (by repeat (first | (with_reducible first | exact HB.out | apply below_alloc | apply pw_below_drewN | apply below_drew1 | refine below_set ?_ GE129.out) | exact HB.out))); (case aF => exact (fun _ _ => trivial)); (case aO => exact (by (with_reducible repeat (first | apply Kd.R_alloc | apply Kd.R_drewN | apply Kd.R_drew)); exact HO_4.out)); (case aS => exact (below_size (by repeat (first | (with_reducible first | exact HB.out | apply below_alloc | apply pw_below_drewN | apply below_drew1 | refine below_set ?_ GE129.out) | exact HB.out)))); (case aL => have := LMc46.out; omega); intro v135 w48 ho hb hg hat; rw [← Ny134.out] at ho; have n0_ := Aside0.mk (blk_grown (g := gb129) (o := .cells #[.string ((rd_T46 l0 x12_1).f0), .int .i64 ((rd_T46 l0 x12_1).f1), .bool false] 46 (0, 0)) (by (with_reducible repeat (first | refine blk_drewN ?_ _ | refine blk_drew ?_ | refine blk_alloc ?_ _)); exact BK129.out) hg (Kd.R_ne HO_4.out BK129.out (by decide))); have n1_ := Aside0.mk (hb); have n2_ := Aside0.mk (ho); clear BK129; clear HB; clear HO_4; have BK129 := n0_; have HB := n1_; have HO136 := n2_; clear n0_ n1_ n2_; clear ho hb hg hat))
                            go_roundg k2
                            case measure => have := HK1.out; have := HK2.out; omega
                            case rel => exact ⟨(y134), (wrap64 (x8_2 - 1)), (by first | rfl | (simp; done) | (simp [MyBase.ne_nil]; done) | (simp [*]; done)), H', ⟨by have := HK1.out; have := HK2.out; omega⟩, ⟨by (with_reducible repeat (first | apply Kd.R_alloc | apply Kd.R_drewN | apply Kd.R_drew)); exact HO136.out⟩, ⟨by (with_reducible repeat (first | refine blk_drewN ?_ _ | refine blk_drew ?_ | refine blk_alloc ?_ _)); exact BK129.out⟩, ⟨by repeat (first | (with_reducible first | exact HB.out | apply below_alloc | apply pw_below_drewN | apply below_drew1 | refine below_set ?_ GE129.out) | exact HB.out)⟩⟩
                          · rw [if_neg c46] at H
                            exact absurd H (by simp)
                        · rw [if_neg c44] at H
                          exact absurd H (by simp)
                      · rw [if_neg c42] at H
                        have c42b0 : decide (0 ≤ x8_2) = false := decide_eq_false c42
                        clear c42
                        have H' := Aside0.mk H
                        clear H
                        go_wp2
                        go_roundg k2
                        case measure => have := HK1.out; have := HK2.out; omega
                        case rel => exact ⟨(x4_2), (wrap64 (x12_1 + 1)), (by first | rfl | (simp; done) | (simp [MyBase.ne_nil]; done) | (simp [*]; done)), H', ⟨by have := HK1.out; have := HK2.out; omega⟩, ⟨by (with_reducible repeat (first | apply Kd.R_alloc | apply Kd.R_drewN | apply Kd.R_drew)); exact HO_4.out⟩, ⟨by repeat (first | (with_reducible first | exact HB.out | apply below_alloc | apply pw_below_drewN | apply below_drew1 | refine below_set ?_ GE129.out) | exact HB.out)⟩⟩
                · rw [if_neg c36] at H
                  exact absurd H (by simp)
            · rw [if_neg c6] at H
              have c6b0 : (t130 == 0) = false := beq_eq_false_iff_ne.mpr c6
              have c6b1 : (t130 != 0) = true := bne_iff_ne.mpr c6
              simp only [Option.some.injEq, Prod.mk.injEq] at H
              obtain ⟨rfl, rfl⟩ := H
              have p128 : 0 ≤ (x12_1 : Int) := of_decide_eq_true (by first | (with_reducible assumption) | assumption)
              have q128 : x12_1 < (l0.length : Int) := of_decide_eq_true (by first | (with_reducible assumption) | assumption)
              obtain ⟨ad128, e128, hx128_0, hx128_1, hx128_2⟩ := at_T46 HR0.out x12_1 p128 q128
              cases e128
              replace hx128_0 := (HB.out.cell (World.block_lt_of_cell? w _ hx128_0)).trans hx128_0
              replace hx128_1 := (HB.out.cell (World.block_lt_of_cell? w _ hx128_1)).trans hx128_1
              replace hx128_2 := (HB.out.cell (World.block_lt_of_cell? w _ hx128_2)).trans hx128_2
              replace p128 := eq_true p128
              replace q128 := eq_true q128
              go_wp2_with (first | ((with_reducible refine gate_dst (N := 6) rfl ?_); refine box_event ?hg (N := 6) ?hd (cs := #[.string (⟨#[]⟩ : ByteArray), .int .i64 0, .bool false]) (t := 46) ?hr ?_; (case hd => rfl); (case hg => rfl); (case hr => first | (go_simp; done) | (go_simp; rfl)); intro gb129 hg w49 hbox hb; have n0_ := Aside0.mk (Kd.R_below (by (with_reducible repeat (first | apply Kd.R_alloc | apply Kd.R_drewN | apply Kd.R_drew)); exact HO_4.out) hb); have n1_ := Aside0.mk (below_step (by repeat (first | (with_reducible first | exact HB.out | apply below_alloc | apply pw_below_drewN | apply below_drew1) | exact HB.out)) hb); have n2_ := Aside0.mk (hbox); have n3_ := Aside0.mk ((by rw [hg]; exact (below_size (by repeat (first | (with_reducible first | exact HB.out | apply below_alloc | apply pw_below_drewN | apply below_drew1) | exact HB.out))) : w.heap.size ≤ gb129)); have n4_ := Aside0.mk ((by rw [hg]; exact (below_size (by repeat (first | (with_reducible first | exact HB.out | apply below_alloc | apply pw_below_drewN | apply below_drew1) | exact HB.out))) : w.heap.size ≤ gb129)); clear HO_4; clear HB; have HO_4 := n0_; have HB := n1_; have BK129 := n2_; have GW129 := n3_; have GE129 := n4_; clear n0_ n1_ n2_ n3_ n4_; clear hb hbox hg; have hcz50_0 : w49.cell? ⟨gb129, 0, none⟩ = some (.string (⟨#[]⟩ : ByteArray)) := (blk_cell BK129.out 0).trans rfl; have hcz50_1 : w49.cell? ⟨gb129, 1, none⟩ = some (.int .i64 0) := (blk_cell BK129.out 1).trans rfl; have hcz50_2 : w49.cell? ⟨gb129, 2, none⟩ = some (.bool false) := (blk_cell BK129.out 2).trans rfl; have hfz50_0 := blk_frozen BK129.out 0; have hfz50_1 := blk_frozen BK129.out 1; have hfz50_2 := blk_frozen BK129.out 2) | ((with_reducible refine gate_callee (f := 29) rfl ?_); refine goesL_ (some 17) rfl rfl Tryd.func29 (by kernel_rfl) rfl #[.agg #[.string ((rd_T46 l0 x12_1).f0), .int .i64 ((rd_T46 l0 x12_1).f1), .bool ((rd_T46 l0 x12_1).f2)]] rfl (by (try simp only [List.map_toArray, List.map_cons, List.map_nil]); first | done | rfl | (simp only [List.length_drop, List.length_take]; rfl)) ?_; (with_reducible refine (keys_Value_right.calls k1 ((rd_T46 l0 x12_1).f0) ((rd_T46 l0 x12_1).f1) ((rd_T46 l0 x12_1).f2) t130 _ (by first | (with_reducible exact A5.out) | (have z_ := A5.out; (try rw [← Nbq7.out] at z_); exact z_))).mono ?_); rintro e w51 ⟨rfl, hb⟩; refine ⟨_, rfl, ?_⟩; have n0_ := Aside0.mk (Kd.R_below (by (with_reducible repeat (first | apply Kd.R_alloc | apply Kd.R_drewN | apply Kd.R_drew)); exact (Kd.R_mono (Kd.R_far (p := ⟨gb129, 2, none⟩) (Kd.R_far (p := ⟨gb129, 1, none⟩) (Kd.R_far (p := ⟨gb129, 0, none⟩) (Kd.R_types HO_4.out BK129.out (by decide)) (fun _ hk => hk.2) (.string ((rd_T46 l0 x12_1).f0))) (fun _ hk => hk.2) (.int .i64 ((rd_T46 l0 x12_1).f1))) (fun _ hk => hk.2) (.bool ((rd_T46 l0 x12_1).f2))) (fun _ h_ => h_.1))) hb); have n1_ := Aside0.mk (blk_below (g := gb129) (o := .cells #[.string ((rd_T46 l0 x12_1).f0), .int .i64 ((rd_T46 l0 x12_1).f1), .bool ((rd_T46 l0 x12_1).f2)] 46 (0, 0)) (by (with_reducible repeat (first | refine blk_drewN ?_ _ | refine blk_drew ?_ | refine blk_alloc ?_ _)); refine blk_put (cs := #[.string ((rd_T46 l0 x12_1).f0), .int .i64 ((rd_T46 l0 x12_1).f1), .bool false]) ?_ 2 _ rfl; (with_reducible repeat (first | refine blk_drewN ?_ _ | refine blk_drew ?_ | refine blk_alloc ?_ _)); refine blk_put (cs := #[.string ((rd_T46 l0 x12_1).f0), .int .i64 0, .bool false]) ?_ 1 _ rfl; (with_reducible repeat (first | refine blk_drewN ?_ _ | refine blk_drew ?_ | refine blk_alloc ?_ _)); refine blk_put (cs := #[.string (⟨#[]⟩ : ByteArray), .int .i64 0, .bool false]) ?_ 0 _ rfl; (with_reducible repeat (first | refine blk_drewN ?_ _ | refine blk_drew ?_ | refine blk_alloc ?_ _)); exact BK129.out) hb); have n2_ := Aside0.mk (below_step (by repeat (first | (with_reducible first | exact HB.out | apply below_alloc | apply pw_below_drewN | apply below_drew1 | refine below_set ?_ GE129.out) | exact HB.out)) hb); clear HO_4; clear BK129; clear HB; have HO_4 := n0_; have BK129 := n1_; have HB := n2_; clear n0_ n1_ n2_; (try clear hb); (try clear hb2); (try clear hk); (try clear hi)))
              go_ret2
              exact ⟨by first | rfl | (simp [errW_none, errW_some] <;> rfl) | (simp [*, errW_none, errW_some] <;> rfl), by repeat (first | (with_reducible first | exact HB.out | apply below_alloc | apply pw_below_drewN | apply below_drew1 | refine below_set ?_ GE129.out) | exact HB.out)⟩
          · rw [if_neg c4] at H
            exact absurd H (by simp)
        · rw [if_neg c3] at H
          exact absurd H (by simp)
      · rw [if_neg c2] at H
        have c2b0 : decide (x12_1 < (l0.length : Int)) = false := decide_eq_false c2
        clear c2
        simp only [Option.some.injEq, Prod.mk.injEq] at H
        obtain ⟨rfl, rfl⟩ := H
        have hcv52 := own_string (P := Tryd.prog) Tryd.underlying52 Tryd.underlying5 Tryd.underlying9 (Kd.own_of_R HO_4.out)
        go_wp2
        go_ret2
        exact ⟨by first | rfl | (simp [errW_none, errW_some] <;> rfl) | (simp [*, errW_none, errW_some] <;> rfl), by repeat (first | (with_reducible first | exact HB.out | apply below_alloc | apply pw_below_drewN | apply below_drew1) | exact HB.out)⟩

/-! ### keys_Number: function 15 -/
def keys_Number.f (a0 : Int) : Option (ByteArray × Int × Bool) := some ((⟨#[]⟩ : ByteArray), a0, false)
set_option maxHeartbeats 8000000 in
set_option maxRecDepth 100000 in
theorem keys_Number.calls (a0 : Int) (r1 : ByteArray) (r2 : Int) (r3 : Bool) (w : World) (h : keys_Number.f a0 = some (r1, r2, r3)) :
    Calls Tryd.prog 15 #[.int .i64 a0] w fun e w' => e = .returned (.agg #[.string r1, .int .i64 r2, .bool r3]) ∧ Below w.heap.size w w' := by
  have hu46 := Tryd.underlying46
  have HB := Aside0.mk (Below.refl w.heap.size w)
  have H : (some ((⟨#[]⟩ : ByteArray), a0, false)) = some (r1, r2, r3) := h
  clear h
  simp only [Option.some.injEq, Prod.mk.injEq] at H
  obtain ⟨rfl, rfl, rfl⟩ := H
  go_enter Tryd.func15, Tryd.ntmps15
  go_wp2_with (first | ((with_reducible refine gate_dst (N := 2) rfl ?_); refine box_event ?hg (N := 2) ?hd (cs := #[.string (⟨#[]⟩ : ByteArray), .int .i64 0, .bool false]) (t := 46) ?hr ?_; (case hd => rfl); (case hg => rfl); (case hr => first | (go_simp; done) | (go_simp; rfl)); intro gb152 hg w2 hbox hb; have n0_ := Aside0.mk (below_step (by repeat (first | (with_reducible first | exact HB.out | apply below_alloc | apply pw_below_drewN | apply below_drew1) | exact HB.out)) hb); have n1_ := Aside0.mk (hbox); have n2_ := Aside0.mk ((by rw [hg]; exact (below_size (by repeat (first | (with_reducible first | exact HB.out | apply below_alloc | apply pw_below_drewN | apply below_drew1) | exact HB.out))) : w.heap.size ≤ gb152)); have n3_ := Aside0.mk ((by rw [hg]; exact (below_size (by repeat (first | (with_reducible first | exact HB.out | apply below_alloc | apply pw_below_drewN | apply below_drew1) | exact HB.out))) : w.heap.size ≤ gb152)); clear HB; have HB := n0_; have BK152 := n1_; have GW152 := n2_; have GE152 := n3_; clear n0_ n1_ n2_ n3_; clear hb hbox hg; have hcz3_0 : w2.cell? ⟨gb152, 0, none⟩ = some (.string (⟨#[]⟩ : ByteArray)) := (blk_cell BK152.out 0).trans rfl; have hcz3_1 : w2.cell? ⟨gb152, 1, none⟩ = some (.int .i64 0) := (blk_cell BK152.out 1).trans rfl; have hcz3_2 : w2.cell? ⟨gb152, 2, none⟩ = some (.bool false) := (blk_cell BK152.out 2).trans rfl; have hfz3_0 := blk_frozen BK152.out 0; have hfz3_1 := blk_frozen BK152.out 1; have hfz3_2 := blk_frozen BK152.out 2))
  refine bodyPost_ret (results_cell_row rfl _ _ gb152 46 #[.string (⟨#[]⟩ : ByteArray), .int .i64 a0, .bool false] (0, 0) _ rfl (by (with_reducible repeat (first | refine blk_drewN ?_ _ | refine blk_drew ?_ | refine blk_alloc ?_ _)); refine blk_put (cs := #[.string (⟨#[]⟩ : ByteArray), .int .i64 a0, .bool false]) ?_ 2 _ rfl; (with_reducible repeat (first | refine blk_drewN ?_ _ | refine blk_drew ?_ | refine blk_alloc ?_ _)); refine blk_put (cs := #[.string (⟨#[]⟩ : ByteArray), .int .i64 0, .bool false]) ?_ 1 _ rfl; (with_reducible repeat (first | refine blk_drewN ?_ _ | refine blk_drew ?_ | refine blk_alloc ?_ _)); refine blk_put (cs := #[.string (⟨#[]⟩ : ByteArray), .int .i64 0, .bool false]) ?_ 0 _ rfl; (with_reducible repeat (first | refine blk_drewN ?_ _ | refine blk_drew ?_ | refine blk_alloc ?_ _)); exact BK152.out) Tryd.underlying46 rfl (by kernel_rfl)) rfl ?_
  exact ⟨by first | rfl | (simp [errW_none, errW_some] <;> rfl) | (simp [*, errW_none, errW_some] <;> rfl), by repeat (first | (with_reducible first | exact HB.out | apply below_alloc | apply pw_below_drewN | apply below_drew1 | refine below_set ?_ GE152.out) | exact HB.out)⟩

/-! ### keys_Text: function 16 -/
def keys_Text.f (a0 : ByteArray) : Option (ByteArray × Int × Bool) := some (a0, 0, true)
set_option maxHeartbeats 8000000 in
set_option maxRecDepth 100000 in
theorem keys_Text.calls (a0 : ByteArray) (r1 : ByteArray) (r2 : Int) (r3 : Bool) (w : World) (h : keys_Text.f a0 = some (r1, r2, r3)) :
    Calls Tryd.prog 16 #[.string a0] w fun e w' => e = .returned (.agg #[.string r1, .int .i64 r2, .bool r3]) ∧ Below w.heap.size w w' := by
  have hu46 := Tryd.underlying46
  have HB := Aside0.mk (Below.refl w.heap.size w)
  have H : (some (a0, 0, true)) = some (r1, r2, r3) := h
  clear h
  simp only [Option.some.injEq, Prod.mk.injEq] at H
  obtain ⟨rfl, rfl, rfl⟩ := H
  go_enter Tryd.func16, Tryd.ntmps16
  go_wp2_with (first | ((with_reducible refine gate_dst (N := 2) rfl ?_); refine box_event ?hg (N := 2) ?hd (cs := #[.string (⟨#[]⟩ : ByteArray), .int .i64 0, .bool false]) (t := 46) ?hr ?_; (case hd => rfl); (case hg => rfl); (case hr => first | (go_simp; done) | (go_simp; rfl)); intro gb153 hg w2 hbox hb; have n0_ := Aside0.mk (below_step (by repeat (first | (with_reducible first | exact HB.out | apply below_alloc | apply pw_below_drewN | apply below_drew1) | exact HB.out)) hb); have n1_ := Aside0.mk (hbox); have n2_ := Aside0.mk ((by rw [hg]; exact (below_size (by repeat (first | (with_reducible first | exact HB.out | apply below_alloc | apply pw_below_drewN | apply below_drew1) | exact HB.out))) : w.heap.size ≤ gb153)); have n3_ := Aside0.mk ((by rw [hg]; exact (below_size (by repeat (first | (with_reducible first | exact HB.out | apply below_alloc | apply pw_below_drewN | apply below_drew1) | exact HB.out))) : w.heap.size ≤ gb153)); clear HB; have HB := n0_; have BK153 := n1_; have GW153 := n2_; have GE153 := n3_; clear n0_ n1_ n2_ n3_; clear hb hbox hg; have hcz3_0 : w2.cell? ⟨gb153, 0, none⟩ = some (.string (⟨#[]⟩ : ByteArray)) := (blk_cell BK153.out 0).trans rfl; have hcz3_1 : w2.cell? ⟨gb153, 1, none⟩ = some (.int .i64 0) := (blk_cell BK153.out 1).trans rfl; have hcz3_2 : w2.cell? ⟨gb153, 2, none⟩ = some (.bool false) := (blk_cell BK153.out 2).trans rfl; have hfz3_0 := blk_frozen BK153.out 0; have hfz3_1 := blk_frozen BK153.out 1; have hfz3_2 := blk_frozen BK153.out 2))
  refine bodyPost_ret (results_cell_row rfl _ _ gb153 46 #[.string a0, .int .i64 0, .bool true] (0, 0) _ rfl (by (with_reducible repeat (first | refine blk_drewN ?_ _ | refine blk_drew ?_ | refine blk_alloc ?_ _)); refine blk_put (cs := #[.string a0, .int .i64 0, .bool false]) ?_ 2 _ rfl; (with_reducible repeat (first | refine blk_drewN ?_ _ | refine blk_drew ?_ | refine blk_alloc ?_ _)); refine blk_put (cs := #[.string a0, .int .i64 0, .bool false]) ?_ 1 _ rfl; (with_reducible repeat (first | refine blk_drewN ?_ _ | refine blk_drew ?_ | refine blk_alloc ?_ _)); refine blk_put (cs := #[.string (⟨#[]⟩ : ByteArray), .int .i64 0, .bool false]) ?_ 0 _ rfl; (with_reducible repeat (first | refine blk_drewN ?_ _ | refine blk_drew ?_ | refine blk_alloc ?_ _)); exact BK153.out) Tryd.underlying46 rfl (by kernel_rfl)) rfl ?_
  exact ⟨by first | rfl | (simp [errW_none, errW_some] <;> rfl) | (simp [*, errW_none, errW_some] <;> rfl), by repeat (first | (with_reducible first | exact HB.out | apply below_alloc | apply pw_below_drewN | apply below_drew1 | refine below_set ?_ GE153.out) | exact HB.out)⟩

/-! ### sum_Open: function 30 -/
def sum_Open.f (a0 : ByteArray) : Option (ByteArray × Int) :=
  if a0.size ≤ 9223372036854775807 then (if a0.size < 4 then some (⟨#[]⟩, 3) else (sum_mark.f (a0.extract 0 (a0.size - 4))).bind fun m => if (a0.extract (a0.size - 4) a0.size).toList = m.toList then some (a0.extract 0 (a0.size - 4), 0) else some (⟨#[]⟩, 5)) else none
set_option maxHeartbeats 4000000 in
set_option maxRecDepth 100000 in
theorem sum_Open.calls (a0 : ByteArray) (r1 : ByteArray) (r2 : Int) (w : World) (h : sum_Open.f a0 = some (r1, r2)) (hLaid : LaidT w) :
    Calls Tryd.prog 30 #[.string a0] w fun e w' => e = .returned (.tuple #[.string r1, .int .i64 r2]) ∧ Below w.heap.size w w' := by
  unfold sum_Open.f at h
  by_cases hs : a0.size ≤ 9223372036854775807
  · rw [if_pos hs] at h
    by_cases h4 : a0.size < 4
    · rw [if_pos h4] at h
      simp only [Option.some.injEq, Prod.mk.injEq] at h
      obtain ⟨rfl, rfl⟩ := h
      clear hLaid
      have h4' : decide ((a0.size : Int) < 4) = true := by simp; omega
      go_enter Tryd.func30, Tryd.ntmps30
      go_wp2
      go_ret2
      exact ⟨rfl, Below.refl _ _⟩
    · rw [if_neg h4] at h
      obtain ⟨m, hm, h⟩ := Option.bind_eq_some_iff.mp h
      have HM := Lib.hid hm
      have H := Lib.hid h
      have HL := Lib.hid hLaid
      clear hm h hLaid
      have h4' : decide ((a0.size : Int) < 4) = false := by simp; omega
      obtain ⟨k, hk⟩ : ∃ k : Nat, k = a0.size - 4 := ⟨_, rfl⟩
      have hw : IntKind.i64.wrap ((a0.size : Int) - 4) = (k : Int) := by rw [IntKind.wrap_i64]; omega
      have hw' : wrap64 ((a0.size : Int) - 4) = (k : Int) := by unfold wrap64; omega
      have hkl : k ≤ a0.size := by omega
      have hkl' : ((k : Int) ≤ (a0.size : Int)) = True := eq_true (by omega)
      rw [← hk] at HM H
      have hsz : (a0.extract 0 k).size = k := by rw [ByteArray.size_extract]; omega
      have H4 := Lib.hid h4
      have HK := Lib.hid hk
      clear h4 hk
      go_enter Tryd.func30, Tryd.ntmps30
      go_wp2_with fail
      cases hc : ((a0.extract k a0.size).toList == m.toList)
      · have hh := H.out
        rw [if_neg (by simpa using hc)] at hh
        simp only [Option.some.injEq, Prod.mk.injEq] at hh
        obtain ⟨rfl, rfl⟩ := hh
        clear H
        go_region_with (go_at_call 39; refine (sum_mark.calls _ _ _ HM.out (laid_below HL.out (by repeat (first | exact Below.refl _ _ | apply below_drew1 | apply pw_below_drewN)))).mono ?_; rintro e w' ⟨rfl, hb⟩)
        all_goals (go_wp2_with fail; go_ret2; exact ⟨rfl, ⟨hb.os, hb.tape, hb.output, hb.size, hb.block⟩⟩)
      · have hh := H.out
        rw [if_pos (by simpa using hc)] at hh
        simp only [Option.some.injEq, Prod.mk.injEq] at hh
        obtain ⟨rfl, rfl⟩ := hh
        clear H
        go_region_with (go_at_call 39; refine (sum_mark.calls _ _ _ HM.out (laid_below HL.out (by repeat (first | exact Below.refl _ _ | apply below_drew1 | apply pw_below_drewN)))).mono ?_; rintro e w' ⟨rfl, hb⟩)
        all_goals (go_wp2_with fail; go_ret2; exact ⟨rfl, ⟨hb.os, hb.tape, hb.output, hb.size, hb.block⟩⟩)
  · rw [if_neg hs] at h
    exact absurd h (by simp)

/-! ### strings_trimLeftByte: function 48 -/
def strings_trimLeftByte.l0 : Nat → ByteArray → Int → Option (ByteArray)
  | 0, _, _ => none
  | k + 1, x0, x1 => if (x0.size : Int) > 0 then (if 0 < (x0.size : Int) then (if (bt x0 0) = x1 then (if 1 ≤ (x0.size : Int) then (strings_trimLeftByte.l0 k (x0.extract 1 x0.size) x1) else (none)) else (some x0)) else (none)) else (some x0)
def strings_trimLeftByte.f (k : Nat) (a0 : ByteArray) (a1 : Int) : Option (ByteArray) := strings_trimLeftByte.l0 k a0 a1
theorem strings_trimLeftByte.mono_l : ∀ k, (∀ y0 y1, LeO (strings_trimLeftByte.l0 k y0 y1) (strings_trimLeftByte.l0 (k + 1) y0 y1))
  | 0 => fun _ _ r h => by simp [strings_trimLeftByte.l0] at h
  | k + 1 => by
    have ih0 := strings_trimLeftByte.mono_l k
    · intro y0 y1
      unfold strings_trimLeftByte.l0
      repeat' first
      | (with_reducible exact ih0 _ _)
      | (with_reducible exact LeO.refl _)
      | (with_reducible exact LeO.none _)
      | (with_reducible refine LeO.ite ?_ ?_)
      | (with_reducible refine LeO.bind ?_ (fun _ => ?_))
      | exact ih0 _ _
      | exact LeO.none _
      | refine LeO.ite ?_ ?_
      | refine LeO.bind ?_ (fun _ => ?_)
theorem strings_trimLeftByte.mono : ∀ a0 a1 k, LeO (strings_trimLeftByte.f k a0 a1) (strings_trimLeftByte.f (k + 1) a0 a1) := by
  intro a0 a1 k
  have ih0 := strings_trimLeftByte.mono_l k
  unfold strings_trimLeftByte.f
  repeat' first
      | (with_reducible exact ih0 _ _)
      | (with_reducible exact LeO.refl _)
      | (with_reducible exact LeO.none _)
      | (with_reducible refine LeO.ite ?_ ?_)
      | (with_reducible refine LeO.bind ?_ (fun _ => ?_))
      | exact ih0 _ _
      | exact LeO.none _
      | refine LeO.ite ?_ ?_
      | refine LeO.bind ?_ (fun _ => ?_)
set_option maxHeartbeats 8000000 in
set_option maxRecDepth 100000 in
theorem strings_trimLeftByte.calls (k : Nat) (a0 : ByteArray) (a1 : Int) (r : ByteArray) (w : World) (h : strings_trimLeftByte.f k a0 a1 = some r) :
    Calls Tryd.prog 48 #[.string a0, .int .u8 a1] w fun e w' => e = .returned (.string r) ∧ Drawn0 w w' := by
  have H : (strings_trimLeftByte.l0 k a0 a1) = some r := h
  clear h
  have H' := Aside0.mk H
  clear H
  go_enter Tryd.func48, Tryd.ntmps48
  go_wp2
  go_loopg [0] k (fun kq v0 w' => ∃ (x0_1 : ByteArray), v0 = .string x0_1 ∧ Aside0 (strings_trimLeftByte.l0 kq x0_1 a1 = some r) ∧ Aside0 (kq ≤ k) ∧ Drawn0 w w')
  case atStart => exact ⟨(a0), (by first | rfl | (simp; done) | (simp [MyBase.ne_nil]; done) | (simp [*]; done)), H', ⟨Nat.le_refl _⟩, by repeat (first | exact Drawn0.refl _ | apply Drawn0.step)⟩
  case round =>
    clear H'
    try clear p2
    obtain ⟨x0_1, rfl, HA, HK1, ⟨m1, rfl⟩⟩ := hrel
    cases gk with
    | zero => exact absurd HA.out (by simp [strings_trimLeftByte.l0])
    | succ k1 =>
      have H := HA.out
      clear HA
      simp only [strings_trimLeftByte.l0] at H
      by_cases c3 : (x0_1.size : Int) > 0
      · rw [if_pos c3] at H
        have c3b0 : decide (0 < (x0_1.size : Int)) = true := decide_eq_true c3
        have c3b1 : decide (0 < x0_1.size) = true := decide_eq_true (by omega)
        clear c3
        by_cases c4 : 0 < (x0_1.size : Int)
        · rw [if_pos c4] at H
          have c4b0 : decide (0 < (x0_1.size : Int)) = true := decide_eq_true c4
          have c4b1 : decide (0 < x0_1.size) = true := decide_eq_true (by omega)
          clear c4
          by_cases c6 : (bt x0_1 0) = a1
          · rw [if_pos c6] at H
            have c6b0 : ((bt x0_1 0) == a1) = true := beq_iff_eq.mpr c6
            have c6b1 : ((bt x0_1 0) != a1) = false := bne_eq_false_iff_eq.mpr c6
            clear c6
            by_cases c7 : 1 ≤ (x0_1.size : Int)
            · rw [if_pos c7] at H
              have c7b0 := eq_true c7
              have c7b1 : decide (1 ≤ (x0_1.size : Int)) = true := decide_eq_true c7
              clear c7
              have H' := Aside0.mk H
              clear H
              have p5 : 0 ≤ (0 : Int) := (by omega)
              have q5 : 0 < x0_1.size := (by have : (0 : Int) < (x0_1.size : Int) := of_decide_eq_true (by first | (with_reducible assumption) | assumption); omega)
              have hx5 : ∀ h : 0 < x0_1.size, ((x0_1[0]'h).toNat : Int) = bt x0_1 0 := bt_at x0_1 0
              clear p5
              have qi5 : (0 < (x0_1.size : Int)) = True := eq_true (of_decide_eq_true (by first | (with_reducible assumption) | assumption))
              replace q5 := eq_true q5
              go_wp2
              go_roundg k1
              case measure => have := HK1.out; omega
              case rel => exact ⟨(x0_1.extract 1 x0_1.size), (by first | rfl | (simp; done) | (simp [MyBase.ne_nil]; done) | (simp [*]; done)), H', ⟨by have := HK1.out; omega⟩, by repeat (first | exact Drawn0.refl _ | apply Drawn0.step)⟩
            · rw [if_neg c7] at H
              exact absurd H (by simp)
          · rw [if_neg c6] at H
            have c6b0 : ((bt x0_1 0) == a1) = false := beq_eq_false_iff_ne.mpr c6
            have c6b1 : ((bt x0_1 0) != a1) = true := bne_iff_ne.mpr c6
            obtain rfl := Option.some.inj H
            have p5 : 0 ≤ (0 : Int) := (by omega)
            have q5 : 0 < x0_1.size := (by have : (0 : Int) < (x0_1.size : Int) := of_decide_eq_true (by first | (with_reducible assumption) | assumption); omega)
            have hx5 : ∀ h : 0 < x0_1.size, ((x0_1[0]'h).toNat : Int) = bt x0_1 0 := bt_at x0_1 0
            clear p5
            have qi5 : (0 < (x0_1.size : Int)) = True := eq_true (of_decide_eq_true (by first | (with_reducible assumption) | assumption))
            replace q5 := eq_true q5
            go_wp2
            go_ret
            exact ⟨by first | rfl | (simp; done) | (simp [MyBase.ne_nil]; done) | (simp [*]; done), by repeat (first | exact Drawn0.refl _ | apply Drawn0.step)⟩
        · rw [if_neg c4] at H
          exact absurd H (by simp)
      · rw [if_neg c3] at H
        have c3b0 : decide (0 < (x0_1.size : Int)) = false := decide_eq_false c3
        have c3b1 : decide (0 < x0_1.size) = false := decide_eq_false (by omega)
        clear c3
        obtain rfl := Option.some.inj H
        go_wp2
        go_ret
        exact ⟨by first | rfl | (simp; done) | (simp [MyBase.ne_nil]; done) | (simp [*]; done), by repeat (first | exact Drawn0.refl _ | apply Drawn0.step)⟩

/-! ### strings_trimRightByte: function 49 -/
def strings_trimRightByte.l0 : Nat → ByteArray → Int → Option (ByteArray)
  | 0, _, _ => none
  | k + 1, x0, x1 => if (x0.size : Int) > 0 then (if 0 ≤ (wrap64 ((x0.size : Int) - 1)) then (if (wrap64 ((x0.size : Int) - 1)) < (x0.size : Int) then (if (bt x0 (wrap64 ((x0.size : Int) - 1))) = x1 then (if (wrap64 ((x0.size : Int) - 1)) ≤ (x0.size : Int) then (strings_trimRightByte.l0 k (x0.extract 0 ((wrap64 ((x0.size : Int) - 1)) : Int).toNat) x1) else (none)) else (some x0)) else (none)) else (none)) else (some x0)
def strings_trimRightByte.f (k : Nat) (a0 : ByteArray) (a1 : Int) : Option (ByteArray) := strings_trimRightByte.l0 k a0 a1
theorem strings_trimRightByte.mono_l : ∀ k, (∀ y0 y1, LeO (strings_trimRightByte.l0 k y0 y1) (strings_trimRightByte.l0 (k + 1) y0 y1))
  | 0 => fun _ _ r h => by simp [strings_trimRightByte.l0] at h
  | k + 1 => by
    have ih0 := strings_trimRightByte.mono_l k
    · intro y0 y1
      unfold strings_trimRightByte.l0
      repeat' first
      | (with_reducible exact ih0 _ _)
      | (with_reducible exact LeO.refl _)
      | (with_reducible exact LeO.none _)
      | (with_reducible refine LeO.ite ?_ ?_)
      | (with_reducible refine LeO.bind ?_ (fun _ => ?_))
      | exact ih0 _ _
      | exact LeO.none _
      | refine LeO.ite ?_ ?_
      | refine LeO.bind ?_ (fun _ => ?_)
theorem strings_trimRightByte.mono : ∀ a0 a1 k, LeO (strings_trimRightByte.f k a0 a1) (strings_trimRightByte.f (k + 1) a0 a1) := by
  intro a0 a1 k
  have ih0 := strings_trimRightByte.mono_l k
  unfold strings_trimRightByte.f
  repeat' first
      | (with_reducible exact ih0 _ _)
      | (with_reducible exact LeO.refl _)
      | (with_reducible exact LeO.none _)
      | (with_reducible refine LeO.ite ?_ ?_)
      | (with_reducible refine LeO.bind ?_ (fun _ => ?_))
      | exact ih0 _ _
      | exact LeO.none _
      | refine LeO.ite ?_ ?_
      | refine LeO.bind ?_ (fun _ => ?_)
set_option maxHeartbeats 8000000 in
set_option maxRecDepth 100000 in
theorem strings_trimRightByte.calls (k : Nat) (a0 : ByteArray) (a1 : Int) (r : ByteArray) (w : World) (h : strings_trimRightByte.f k a0 a1 = some r) :
    Calls Tryd.prog 49 #[.string a0, .int .u8 a1] w fun e w' => e = .returned (.string r) ∧ Drawn0 w w' := by
  have H : (strings_trimRightByte.l0 k a0 a1) = some r := h
  clear h
  have H' := Aside0.mk H
  clear H
  go_enter Tryd.func49, Tryd.ntmps49
  go_wp2
  go_loopg [0] k (fun kq v0 w' => ∃ (x0_1 : ByteArray), v0 = .string x0_1 ∧ Aside0 (strings_trimRightByte.l0 kq x0_1 a1 = some r) ∧ Aside0 (kq ≤ k) ∧ Drawn0 w w')
  case atStart => exact ⟨(a0), (by first | rfl | (simp; done) | (simp [MyBase.ne_nil]; done) | (simp [*]; done)), H', ⟨Nat.le_refl _⟩, by repeat (first | exact Drawn0.refl _ | apply Drawn0.step)⟩
  case round =>
    clear H'
    try clear p2
    obtain ⟨x0_1, rfl, HA, HK1, ⟨m1, rfl⟩⟩ := hrel
    cases gk with
    | zero => exact absurd HA.out (by simp [strings_trimRightByte.l0])
    | succ k1 =>
      have H := HA.out
      clear HA
      simp only [strings_trimRightByte.l0] at H
      by_cases c3 : (x0_1.size : Int) > 0
      · rw [if_pos c3] at H
        have c3b0 : decide (0 < (x0_1.size : Int)) = true := decide_eq_true c3
        have c3b1 : decide (0 < x0_1.size) = true := decide_eq_true (by omega)
        clear c3
        obtain ⟨ji4, hji4⟩ : ∃ j_ : Int, (wrap64 ((x0_1.size : Int) - 1)) = j_ := ⟨_, rfl⟩
        replace H : (if 0 ≤ (ji4) then (if (ji4) < (x0_1.size : Int) then (if (bt x0_1 (ji4)) = a1 then (if (ji4) ≤ (x0_1.size : Int) then (strings_trimRightByte.l0 k1 (x0_1.extract 0 ((ji4) : Int).toNat) a1) else (none)) else (some x0_1)) else (none)) else (none)) = some r := by first | (rw [hji4] at H; exact H) | (simp only [hji4] at H ⊢; exact H)
        have hji4w : (IntKind.i64.wrap ((x0_1.size : Int) - 1)) = ji4 := (i64_w _).trans hji4
        by_cases c5 : 0 ≤ (ji4)
        · rw [if_pos c5] at H
          have c5b0 : decide (0 ≤ (ji4)) = true := decide_eq_true c5
          clear c5
          by_cases c6 : (ji4) < (x0_1.size : Int)
          · rw [if_pos c6] at H
            have c6b0 : decide ((ji4) < (x0_1.size : Int)) = true := decide_eq_true c6
            clear c6
            by_cases c8 : (bt x0_1 (ji4)) = a1
            · rw [if_pos c8] at H
              have c8b0 : ((bt x0_1 (ji4)) == a1) = true := beq_iff_eq.mpr c8
              have c8b1 : ((bt x0_1 (ji4)) != a1) = false := bne_eq_false_iff_eq.mpr c8
              clear c8
              have c9b0 := eq_true (of_decide_eq_true (by first | (with_reducible assumption) | assumption) : 0 ≤ (ji4))
              by_cases c10 : (ji4) ≤ (x0_1.size : Int)
              · rw [if_pos c10] at H
                have c10b0 := eq_true c10
                have c10b1 : decide ((ji4) ≤ (x0_1.size : Int)) = true := decide_eq_true c10
                clear c10
                have H' := Aside0.mk H
                clear H
                have p7 : 0 ≤ ((ji4) : Int) := of_decide_eq_true (by first | (with_reducible assumption) | assumption)
                have q7 : (ji4) < (x0_1.size : Int) := of_decide_eq_true (by first | (with_reducible assumption) | assumption)
                have hx7 := bt_at x0_1 (ji4)
                replace p7 := eq_true p7
                replace q7 := eq_true q7
                go_wp2
                go_roundg k1
                case measure => have := HK1.out; omega
                case rel => exact ⟨(x0_1.extract 0 ((ji4) : Int).toNat), (by first | rfl | (simp; done) | (simp only [← hji4] <;> (first | rfl | simp)) | (simp [*]; done)), H', ⟨by have := HK1.out; omega⟩, by repeat (first | exact Drawn0.refl _ | apply Drawn0.step)⟩
              · rw [if_neg c10] at H
                exact absurd H (by simp)
            · rw [if_neg c8] at H
              have c8b0 : ((bt x0_1 (ji4)) == a1) = false := beq_eq_false_iff_ne.mpr c8
              have c8b1 : ((bt x0_1 (ji4)) != a1) = true := bne_iff_ne.mpr c8
              obtain rfl := Option.some.inj H
              have p7 : 0 ≤ ((ji4) : Int) := of_decide_eq_true (by first | (with_reducible assumption) | assumption)
              have q7 : (ji4) < (x0_1.size : Int) := of_decide_eq_true (by first | (with_reducible assumption) | assumption)
              have hx7 := bt_at x0_1 (ji4)
              replace p7 := eq_true p7
              replace q7 := eq_true q7
              go_wp2
              go_ret
              exact ⟨by first | rfl | (simp; done) | (simp only [← hji4] <;> (first | rfl | simp)) | (simp [*]; done), by repeat (first | exact Drawn0.refl _ | apply Drawn0.step)⟩
          · rw [if_neg c6] at H
            exact absurd H (by simp)
        · rw [if_neg c5] at H
          exact absurd H (by simp)
      · rw [if_neg c3] at H
        have c3b0 : decide (0 < (x0_1.size : Int)) = false := decide_eq_false c3
        have c3b1 : decide (0 < x0_1.size) = false := decide_eq_false (by omega)
        clear c3
        obtain rfl := Option.some.inj H
        go_wp2
        go_ret
        exact ⟨by first | rfl | (simp; done) | (simp [MyBase.ne_nil]; done) | (simp [*]; done), by repeat (first | exact Drawn0.refl _ | apply Drawn0.step)⟩

-- NOT PRINTED: function 50 (strings_makeASCIISet)

-- NOT PRINTED: function 56 (strings_asciiSet_contains)

-- NOT PRINTED: function 51 (strings_trimLeftASCII)

-- NOT PRINTED: function 52 (strings_trimRightASCII)

-- NOT PRINTED: function 60 (utf8_decodeRuneInStringSlow)

-- NOT PRINTED: function 57 (utf8_DecodeRuneInString)

-- NOT PRINTED: function 68 (bytealg_IndexByteString)

-- NOT PRINTED: function 67 (stringslite_IndexByte)

-- NOT PRINTED: function 63 (strings_IndexByte)

end Go.Proofs.YtboonnejlfmicaaDoor.PA

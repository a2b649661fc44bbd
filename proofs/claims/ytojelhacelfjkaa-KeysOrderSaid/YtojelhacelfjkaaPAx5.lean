-- Written by a program of this seat out of the translation; Lean checks it.
import Derived.Test.YtojelhacelfjkaaPAx0
import Derived.Test.YtojelhacelfjkaaPAx4s3
namespace Go.Proofs.Ytojelhacelfjkaa.PA
open Go.RowKit Go.Proofs.YtojelhacelfjkaaW.PrintWords Go.Proofs.YtojelhacelfjkaaW.PrintLast Go.Proofs.YtojelhacelfjkaaW.PrintMore
attribute [local go_sem] MyBase.max0 max2_int min2_int max_two min_two max_three min_three max_four min_four   -- for this text's walks alone
set_option linter.unusedVariables false
set_option linter.unusedSimpArgs false

/-! ### keys_text: function 26 -/
def keys_text.l0 : Nat → ByteArray → List Int → Int → Option (ByteArray × Int × Bool × Int × Int)
  | 0, _, _, _ => none
  | k + 1, x0, x5, x6 => if x6 < (x0.size : Int) then (if 0 ≤ x6 then (if (bt x0 x6) = 0 then (if (wrap64 (x6 + 1)) = (x0.size : Int) then (some ((⟨#[]⟩ : ByteArray), 0, false, 0, 3)) else (if 0 ≤ (wrap64 (x6 + 1)) then (if (wrap64 (x6 + 1)) < (x0.size : Int) then (if (bt x0 (wrap64 (x6 + 1))) = 255 then (if x5.length < 140737488355328 then (keys_text.l0 k x0 (x5 ++ [0]) (wrap64 ((wrap64 (x6 + 1)) + 1))) else (none)) else (if (bt x0 (wrap64 (x6 + 1))) = 1 then (if (x5.length : Int) > 20 then (some ((⟨#[]⟩ : ByteArray), 0, false, 0, 6)) else ((keys_Text.f (strOfNums x5)).bind fun bt139 => (some (bt139.1, bt139.2.1, bt139.2.2, wrap64 ((wrap64 (x6 + 1)) + 1), 0)))) else (some ((⟨#[]⟩ : ByteArray), 0, false, 0, 2)))) else (none)) else (none))) else (if x5.length < 140737488355328 then (keys_text.l0 k x0 (x5 ++ [bt x0 x6]) (wrap64 (x6 + 1))) else (none))) else (none)) else (some ((⟨#[]⟩ : ByteArray), 0, false, 0, 3))
def keys_text.f (k : Nat) (a0 : ByteArray) : Option (ByteArray × Int × Bool × Int × Int) := keys_text.l0 k a0 ([] : List Int) 1
theorem keys_text.mono_l : ∀ k, (∀ y0 y1 y2, LeO (keys_text.l0 k y0 y1 y2) (keys_text.l0 (k + 1) y0 y1 y2))
  | 0 => fun _ _ _ r h => by simp [keys_text.l0] at h
  | k + 1 => by
    have ih0 := keys_text.mono_l k
    · intro y0 y1 y2
      unfold keys_text.l0
      repeat' first
      | (with_reducible exact ih0 _ _ _)
      | (with_reducible exact LeO.refl _)
      | (with_reducible exact LeO.none _)
      | (with_reducible refine LeO.ite ?_ ?_)
      | (with_reducible refine LeO.bind ?_ (fun _ => ?_))
      | exact ih0 _ _ _
      | exact LeO.none _
      | refine LeO.ite ?_ ?_
      | refine LeO.bind ?_ (fun _ => ?_)
theorem keys_text.mono : ∀ a0 k, LeO (keys_text.f k a0) (keys_text.f (k + 1) a0) := by
  intro a0 k
  have ih0 := keys_text.mono_l k
  unfold keys_text.f
  repeat' first
      | (with_reducible exact ih0 _ _ _)
      | (with_reducible exact LeO.refl _)
      | (with_reducible exact LeO.none _)
      | (with_reducible refine LeO.ite ?_ ?_)
      | (with_reducible refine LeO.bind ?_ (fun _ => ?_))
      | exact ih0 _ _ _
      | exact LeO.none _
      | refine LeO.ite ?_ ?_
      | refine LeO.bind ?_ (fun _ => ?_)
set_option maxHeartbeats 8000000 in
set_option maxRecDepth 100000 in
theorem keys_text.calls (k : Nat) (a0 : ByteArray) (r1 : ByteArray) (r2 : Int) (r3 : Bool) (r4 : Int) (r5 : Int) (w : World) (h : keys_text.f k a0 = some (r1, r2, r3, r4, r5)) :
    Calls Try.prog 26 #[.string a0] w fun e w' => e = .returned (.tuple #[.agg #[.string r1, .int .i64 r2, .bool r3], .int .i64 r4, .int .i64 r5]) ∧ Below w.heap.size w w' := by
  have hu36 := Try.underlying36
  have HB := Aside0.mk (Below.refl w.heap.size w)
  have H : (keys_text.l0 k a0 ([] : List Int) 1) = some (r1, r2, r3, r4, r5) := h
  clear h
  have H' := Aside0.mk H
  clear H
  go_enter Try.func26, Try.ntmps26
  go_wp2_with (first | ((with_reducible refine gate_dst (N := 2) rfl ?_); refine box_event ?hg (N := 2) ?hd (cs := #[.string (⟨#[]⟩ : ByteArray), .int .i64 0, .bool false]) (t := 36) ?hr ?_; (case hd => rfl); (case hg => rfl); (case hr => first | (go_simp; done) | (go_simp; rfl)); intro gb132 hg w2 hbox hb; have n0_ := Aside0.mk (below_step (by repeat (first | (with_reducible first | exact HB.out | apply below_alloc | apply pw_below_drewN | apply below_drew1) | exact HB.out)) hb); have n1_ := Aside0.mk (hbox); have n2_ := Aside0.mk ((by rw [hg]; exact (below_size (by repeat (first | (with_reducible first | exact HB.out | apply below_alloc | apply pw_below_drewN | apply below_drew1) | exact HB.out))) : w.heap.size ≤ gb132)); have n3_ := Aside0.mk ((by rw [hg]; exact (below_size (by repeat (first | (with_reducible first | exact HB.out | apply below_alloc | apply pw_below_drewN | apply below_drew1) | exact HB.out))) : w.heap.size ≤ gb132)); clear HB; have HB := n0_; have BK132 := n1_; have GW132 := n2_; have GE132 := n3_; clear n0_ n1_ n2_ n3_; clear hb hbox hg))
  go_loopg [5, 6] k (fun kq v5 v6 w' => ∃ (x5_1 : List Int) (x6_1 : Int) (x133000_1 : ByteArray) (x133001_1 : Int) (x133002_1 : Bool), v6 = .int .i64 x6_1 ∧ Aside0 (keys_text.l0 kq a0 x5_1 x6_1 = some (r1, r2, r3, r4, r5)) ∧ Aside0 (kq ≤ k) ∧ Aside0 (Kd.R (Kd.int .u8) 5 w' w.heap.size (fun _ => True) v5 x5_1) ∧ Aside0 (w'.heap[gb132]? = some (.cells #[.string x133000_1, .int .i64 x133001_1, .bool x133002_1] 36 (0, 0))) ∧ Aside0 (Below w.heap.size w w'))
  case atStart => exact ⟨(([] : List Int)), (1), ((⟨#[]⟩ : ByteArray)), (0), (false), (by first | rfl | (simp; done) | (simp [MyBase.ne_nil]; done) | (simp [*]; done)), H', ⟨Nat.le_refl _⟩, ⟨by first | exact Kd.R_nil _ _ _ _ _ | exact Kd.N_nil _ _ _ _ _ | exact Kd.V_nil _ _ _ _ _ | exact Kd.Q_nil _ _ _ _ _ | exact Kd.S_nil _ _ _ _ _⟩, ⟨by (with_reducible repeat (first | refine blk_drewN ?_ _ | refine blk_drew ?_ | refine blk_alloc ?_ _)); exact BK132.out⟩, ⟨by repeat (first | (with_reducible first | exact HB.out | apply below_alloc | apply pw_below_drewN | apply below_drew1 | refine below_set ?_ GE132.out) | exact HB.out)⟩⟩
  case round =>
    clear H'
    try clear c2
    try clear p2
    obtain ⟨x5_1, x6_1, x133000_1, x133001_1, x133002_1, rfl, HA, HK1, HO_5, BK132, HB⟩ := hrel
    cases gk with
    | zero => exact absurd HA.out (by simp [keys_text.l0])
    | succ k1 =>
      have H := HA.out
      clear HA
      simp only [keys_text.l0] at H
      by_cases c3 : x6_1 < (a0.size : Int)
      · rw [if_pos c3] at H
        have c3b0 : decide (x6_1 < (a0.size : Int)) = true := decide_eq_true c3
        clear c3
        by_cases c4 : 0 ≤ x6_1
        · rw [if_pos c4] at H
          have c4b0 : decide (0 ≤ x6_1) = true := decide_eq_true c4
          clear c4
          by_cases c6 : (bt a0 x6_1) = 0
          · rw [if_pos c6] at H
            have c6b0 : ((bt a0 x6_1) == 0) = true := beq_iff_eq.mpr c6
            have c6b1 : ((bt a0 x6_1) != 0) = false := bne_eq_false_iff_eq.mpr c6
            clear c6
            by_cases c7 : (wrap64 (x6_1 + 1)) = (a0.size : Int)
            · rw [if_pos c7] at H
              have c7b0 : ((wrap64 (x6_1 + 1)) == (a0.size : Int)) = true := beq_iff_eq.mpr c7
              have c7b1 : ((wrap64 (x6_1 + 1)) != (a0.size : Int)) = false := bne_eq_false_iff_eq.mpr c7
              clear c7
              simp only [Option.some.injEq, Prod.mk.injEq] at H
              obtain ⟨rfl, rfl, rfl, rfl, rfl⟩ := H
              have p5 : 0 ≤ (x6_1 : Int) := of_decide_eq_true (by first | (with_reducible assumption) | assumption)
              have q5 : x6_1 < (a0.size : Int) := of_decide_eq_true (by first | (with_reducible assumption) | assumption)
              have hx5 := bt_at a0 x6_1
              replace p5 := eq_true p5
              replace q5 := eq_true q5
              have hcz8_0 : wr.cell? ⟨gb132, 0, none⟩ = some (.string x133000_1) := (blk_cell BK132.out 0).trans rfl
              have hcz8_1 : wr.cell? ⟨gb132, 1, none⟩ = some (.int .i64 x133001_1) := (blk_cell BK132.out 1).trans rfl
              have hcz8_2 : wr.cell? ⟨gb132, 2, none⟩ = some (.bool x133002_1) := (blk_cell BK132.out 2).trans rfl
              have hfz8_0 := blk_frozen BK132.out 0
              have hfz8_1 := blk_frozen BK132.out 1
              have hfz8_2 := blk_frozen BK132.out 2
              go_wp2
              refine bodyPost_ret (results_ctt rfl _ _ gb132 36 #[.string (⟨#[]⟩ : ByteArray), .int .i64 0, .bool false] (0, 0) _ rfl (by (with_reducible repeat (first | refine blk_drewN ?_ _ | refine blk_drew ?_ | refine blk_alloc ?_ _)); refine blk_put (cs := #[.string (⟨#[]⟩ : ByteArray), .int .i64 0, .bool x133002_1]) ?_ 2 _ rfl; (with_reducible repeat (first | refine blk_drewN ?_ _ | refine blk_drew ?_ | refine blk_alloc ?_ _)); refine blk_put (cs := #[.string (⟨#[]⟩ : ByteArray), .int .i64 x133001_1, .bool x133002_1]) ?_ 1 _ rfl; (with_reducible repeat (first | refine blk_drewN ?_ _ | refine blk_drew ?_ | refine blk_alloc ?_ _)); refine blk_put (cs := #[.string x133000_1, .int .i64 x133001_1, .bool x133002_1]) ?_ 0 _ rfl; (with_reducible repeat (first | refine blk_drewN ?_ _ | refine blk_drew ?_ | refine blk_alloc ?_ _)); exact BK132.out) Try.underlying36 rfl (by kernel_rfl)) rfl ?_
              exact ⟨by first | rfl | (simp [errW_none, errW_some] <;> rfl) | (simp [*, errW_none, errW_some] <;> rfl), by repeat (first | (with_reducible first | exact HB.out | apply below_alloc | apply pw_below_drewN | apply below_drew1 | refine below_set ?_ GE132.out) | exact HB.out)⟩
            · rw [if_neg c7] at H
              have c7b0 : ((wrap64 (x6_1 + 1)) == (a0.size : Int)) = false := beq_eq_false_iff_ne.mpr c7
              have c7b1 : ((wrap64 (x6_1 + 1)) != (a0.size : Int)) = true := bne_iff_ne.mpr c7
              obtain ⟨ji9, hji9⟩ : ∃ j_ : Int, (wrap64 (x6_1 + 1)) = j_ := ⟨_, rfl⟩
              replace H : (if 0 ≤ (ji9) then (if (ji9) < (a0.size : Int) then (if (bt a0 (ji9)) = 255 then (if x5_1.length < 140737488355328 then (keys_text.l0 k1 a0 (x5_1 ++ [0]) (wrap64 ((ji9) + 1))) else (none)) else (if (bt a0 (ji9)) = 1 then (if (x5_1.length : Int) > 20 then (some ((⟨#[]⟩ : ByteArray), 0, false, 0, 6)) else ((keys_Text.f (strOfNums x5_1)).bind fun bt139 => (some (bt139.1, bt139.2.1, bt139.2.2, wrap64 ((ji9) + 1), 0)))) else (some ((⟨#[]⟩ : ByteArray), 0, false, 0, 2)))) else (none)) else (none)) = some (r1, r2, r3, r4, r5) := by first | (rw [hji9] at H; exact H) | (simp only [hji9] at H ⊢; exact H)
              (try rw [hji9] at c7b0)
              (try rw [hji9] at c7b1)
              have hji9w : (IntKind.i64.wrap (x6_1 + 1)) = ji9 := (i64_w _).trans hji9
              by_cases c10 : 0 ≤ (ji9)
              · rw [if_pos c10] at H
                have c10b0 : decide (0 ≤ (ji9)) = true := decide_eq_true c10
                clear c10
                by_cases c11 : (ji9) < (a0.size : Int)
                · rw [if_pos c11] at H
                  have c11b0 : decide ((ji9) < (a0.size : Int)) = true := decide_eq_true c11
                  clear c11
                  by_cases c13 : (bt a0 (ji9)) = 255
                  · rw [if_pos c13] at H
                    have c13b0 : ((bt a0 (ji9)) == 255) = true := beq_iff_eq.mpr c13
                    have c13b1 : ((bt a0 (ji9)) != 255) = false := bne_eq_false_iff_eq.mpr c13
                    clear c13
                    by_cases c14 : x5_1.length < 140737488355328
                    · rw [if_pos c14] at H
                      have LMc14 := Aside0.mk c14
                      clear c14
                      obtain ⟨y136, hy136⟩ : ∃ y_ : List Int, y_ = (x5_1 ++ [0]) := ⟨_, rfl⟩
                      replace H : (keys_text.l0 k1 a0 y136 (wrap64 ((ji9) + 1))) = some (r1, r2, r3, r4, r5) := by first | (rw [hy136]; with_reducible exact H) | (have H2_ := (Option.bind_some _ _).symm.trans H; rw [hy136]; with_reducible exact H2_) | (have H2_ := (Option.bind_some _ _).symm.trans H; with_reducible exact H2_) | with_reducible exact H | (rw [hy136]; exact H) | exact H
                      have Ny136 := Aside0.mk hy136
                      clear hy136
                      have H' := Aside0.mk H
                      clear H
                      have p5 : 0 ≤ (x6_1 : Int) := of_decide_eq_true (by first | (with_reducible assumption) | assumption)
                      have q5 : x6_1 < (a0.size : Int) := of_decide_eq_true (by first | (with_reducible assumption) | assumption)
                      have hx5 := bt_at a0 x6_1
                      replace p5 := eq_true p5
                      replace q5 := eq_true q5
                      have p12 : 0 ≤ ((ji9) : Int) := of_decide_eq_true (by first | (with_reducible assumption) | assumption)
                      have q12 : (ji9) < (a0.size : Int) := of_decide_eq_true (by first | (with_reducible assumption) | assumption)
                      have hx12 := bt_at a0 (ji9)
                      replace p12 := eq_true p12
                      replace q12 := eq_true q12
                      go_wp2_with (first | ((with_reducible refine gate_builtin (b := .append) (xs := #[.tmp 35, .tmp 36]) rfl ?_); at_builtin; refine Kd.R_append (Kd.int .u8) (w0 := w) w.heap.size rfl (.tmp 35) (.tmp 36) 53 5 (.int .u8 0) 1 rfl Try.underlying53 info5 rfl (by decide) (by omega) u5 x5_1 0 [.int .u8 0] (fun _ => True) (fun _ => False) rfl rfl ?aP (fun _ hk => hk.elim) ?aF ?aO ?aB ?aS ?aL ?_; (case aP => exact rfl); (case aB => exact (by repeat (first | (with_reducible first | exact HB.out | apply below_alloc | apply pw_below_drewN | apply below_drew1 | refine below_set ?_ GE132.out) | exact HB.out))); (case aF => exact (fun _ _ => trivial)); (case aO => exact (by (with_reducible repeat (first | apply Kd.R_alloc | apply Kd.R_drewN | apply Kd.R_drew)); exact HO_5.out)); (case aS => exact (below_size (by repeat (first | (with_reducible first | exact HB.out | apply below_alloc | apply pw_below_drewN | apply below_drew1 | refine below_set ?_ GE132.out) | exact HB.out)))); (case aL => have := LMc14.out; omega); intro v137 w15 ho hb hg hat; rw [← Ny136.out] at ho; have n0_ := Aside0.mk (blk_grown (g := gb132) (o := .cells #[.string x133000_1, .int .i64 x133001_1, .bool x133002_1] 36 (0, 0)) (by (with_reducible repeat (first | refine blk_drewN ?_ _ | refine blk_drew ?_ | refine blk_alloc ?_ _)); exact BK132.out) hg (Kd.R_ne HO_5.out BK132.out (by decide))); have n1_ := Aside0.mk (hb); have n2_ := Aside0.mk (ho); clear BK132; clear HB; clear HO_5; have BK132 := n0_; have HB := n1_; have HO138 := n2_; clear n0_ n1_ n2_; clear ho hb hg hat))
                      go_roundg k1
                      case measure => have := HK1.out; omega
                      case rel => exact ⟨(y136), (wrap64 ((ji9) + 1)), (x133000_1), (x133001_1), (x133002_1), (by first | rfl | (simp; done) | (simp only [← hji9] <;> (first | rfl | simp)) | (simp [*]; done)), H', ⟨by have := HK1.out; omega⟩, ⟨by (with_reducible repeat (first | apply Kd.R_alloc | apply Kd.R_drewN | apply Kd.R_drew)); exact HO138.out⟩, ⟨by (with_reducible repeat (first | refine blk_drewN ?_ _ | refine blk_drew ?_ | refine blk_alloc ?_ _)); exact BK132.out⟩, ⟨by repeat (first | (with_reducible first | exact HB.out | apply below_alloc | apply pw_below_drewN | apply below_drew1 | refine below_set ?_ GE132.out) | exact HB.out)⟩⟩
                    · rw [if_neg c14] at H
                      exact absurd H (by simp)
                  · rw [if_neg c13] at H
                    have c13b0 : ((bt a0 (ji9)) == 255) = false := beq_eq_false_iff_ne.mpr c13
                    have c13b1 : ((bt a0 (ji9)) != 255) = true := bne_iff_ne.mpr c13
                    by_cases c16 : (bt a0 (ji9)) = 1
                    · rw [if_pos c16] at H
                      have c16b0 : ((bt a0 (ji9)) == 1) = true := beq_iff_eq.mpr c16
                      have c16b1 : ((bt a0 (ji9)) != 1) = false := bne_eq_false_iff_eq.mpr c16
                      clear c16
                      by_cases c17 : (x5_1.length : Int) > 20
                      · rw [if_pos c17] at H
                        have c17b0 : decide (20 < (x5_1.length : Int)) = true := decide_eq_true c17
                        have c17b1 : decide (20 < x5_1.length) = true := decide_eq_true (by omega)
                        clear c17
                        simp only [Option.some.injEq, Prod.mk.injEq] at H
                        obtain ⟨rfl, rfl, rfl, rfl, rfl⟩ := H
                        have p5 : 0 ≤ (x6_1 : Int) := of_decide_eq_true (by first | (with_reducible assumption) | assumption)
                        have q5 : x6_1 < (a0.size : Int) := of_decide_eq_true (by first | (with_reducible assumption) | assumption)
                        have hx5 := bt_at a0 x6_1
                        replace p5 := eq_true p5
                        replace q5 := eq_true q5
                        have p12 : 0 ≤ ((ji9) : Int) := of_decide_eq_true (by first | (with_reducible assumption) | assumption)
                        have q12 : (ji9) < (a0.size : Int) := of_decide_eq_true (by first | (with_reducible assumption) | assumption)
                        have hx12 := bt_at a0 (ji9)
                        replace p12 := eq_true p12
                        replace q12 := eq_true q12
                        obtain ⟨Ao18, co18, eo18⟩ := Kd.R_slice HO_5.out
                        subst eo18
                        have hcz19_0 : wr.cell? ⟨gb132, 0, none⟩ = some (.string x133000_1) := (blk_cell BK132.out 0).trans rfl
                        have hcz19_1 : wr.cell? ⟨gb132, 1, none⟩ = some (.int .i64 x133001_1) := (blk_cell BK132.out 1).trans rfl
                        have hcz19_2 : wr.cell? ⟨gb132, 2, none⟩ = some (.bool x133002_1) := (blk_cell BK132.out 2).trans rfl
                        have hfz19_0 := blk_frozen BK132.out 0
                        have hfz19_1 := blk_frozen BK132.out 1
                        have hfz19_2 := blk_frozen BK132.out 2
                        go_wp2
                        refine bodyPost_ret (results_ctt rfl _ _ gb132 36 #[.string (⟨#[]⟩ : ByteArray), .int .i64 0, .bool false] (0, 0) _ rfl (by (with_reducible repeat (first | refine blk_drewN ?_ _ | refine blk_drew ?_ | refine blk_alloc ?_ _)); refine blk_put (cs := #[.string (⟨#[]⟩ : ByteArray), .int .i64 0, .bool x133002_1]) ?_ 2 _ rfl; (with_reducible repeat (first | refine blk_drewN ?_ _ | refine blk_drew ?_ | refine blk_alloc ?_ _)); refine blk_put (cs := #[.string (⟨#[]⟩ : ByteArray), .int .i64 x133001_1, .bool x133002_1]) ?_ 1 _ rfl; (with_reducible repeat (first | refine blk_drewN ?_ _ | refine blk_drew ?_ | refine blk_alloc ?_ _)); refine blk_put (cs := #[.string x133000_1, .int .i64 x133001_1, .bool x133002_1]) ?_ 0 _ rfl; (with_reducible repeat (first | refine blk_drewN ?_ _ | refine blk_drew ?_ | refine blk_alloc ?_ _)); exact BK132.out) Try.underlying36 rfl (by kernel_rfl)) rfl ?_
                        exact ⟨by first | rfl | (simp [errW_none, errW_some] <;> rfl) | (simp only [← hji9]; first | rfl | (simp [errW_none, errW_some] <;> rfl)) | (simp [*, errW_none, errW_some] <;> rfl), by repeat (first | (with_reducible first | exact HB.out | apply below_alloc | apply pw_below_drewN | apply below_drew1 | refine below_set ?_ GE132.out) | exact HB.out)⟩
                      · rw [if_neg c17] at H
                        have c17b0 : decide (20 < (x5_1.length : Int)) = false := decide_eq_false c17
                        have c17b1 : decide (20 < x5_1.length) = false := decide_eq_false (by omega)
                        clear c17
                        replace H := Option.bind_eq_some_iff.mp H
                        obtain ⟨⟨t139, t140, t141⟩, A200, H⟩ := H
                        replace H : (some (t139, t140, t141, wrap64 ((ji9) + 1), 0)) = some (r1, r2, r3, r4, r5) := H
                        have A20 := Aside0.mk A200
                        clear A200
                        simp only [Option.some.injEq, Prod.mk.injEq] at H
                        obtain ⟨rfl, rfl, rfl, rfl, rfl⟩ := H
                        have p5 : 0 ≤ (x6_1 : Int) := of_decide_eq_true (by first | (with_reducible assumption) | assumption)
                        have q5 : x6_1 < (a0.size : Int) := of_decide_eq_true (by first | (with_reducible assumption) | assumption)
                        have hx5 := bt_at a0 x6_1
                        replace p5 := eq_true p5
                        replace q5 := eq_true q5
                        have p12 : 0 ≤ ((ji9) : Int) := of_decide_eq_true (by first | (with_reducible assumption) | assumption)
                        have q12 : (ji9) < (a0.size : Int) := of_decide_eq_true (by first | (with_reducible assumption) | assumption)
                        have hx12 := bt_at a0 (ji9)
                        replace p12 := eq_true p12
                        replace q12 := eq_true q12
                        obtain ⟨Ao21, co21, eo21⟩ := Kd.R_slice HO_5.out
                        subst eo21
                        have hcv22 := own_string (P := Try.prog) Try.underlying53 Try.underlying5 Try.underlying9 (Kd.own_of_R HO_5.out)
                        go_wp2_with (first | ((with_reducible refine gate_callee (f := 21) rfl ?_); refine goesL_ (some 46) rfl rfl Try.func21 (by kernel_rfl) rfl #[.string (strOfNums x5_1)] rfl (by (try simp only [List.map_toArray, List.map_cons, List.map_nil]); first | done | rfl | (simp only [List.length_drop, List.length_take]; rfl)) ?_; (with_reducible refine (keys_Text.calls (strOfNums x5_1) t139 t140 t141 _ A20.out).mono ?_); rintro e w23 ⟨rfl, hb⟩; refine ⟨_, rfl, ?_⟩; have n0_ := Aside0.mk (Kd.R_below (by (with_reducible repeat (first | apply Kd.R_alloc | apply Kd.R_drewN | apply Kd.R_drew)); exact HO_5.out) hb); have n1_ := Aside0.mk (blk_below (g := gb132) (o := .cells #[.string x133000_1, .int .i64 x133001_1, .bool x133002_1] 36 (0, 0)) (by (with_reducible repeat (first | refine blk_drewN ?_ _ | refine blk_drew ?_ | refine blk_alloc ?_ _)); exact BK132.out) hb); have n2_ := Aside0.mk (below_step (by repeat (first | (with_reducible first | exact HB.out | apply below_alloc | apply pw_below_drewN | apply below_drew1 | refine below_set ?_ GE132.out) | exact HB.out)) hb); clear HO_5; clear BK132; clear HB; have HO_5 := n0_; have BK132 := n1_; have HB := n2_; clear n0_ n1_ n2_; (try clear hb); (try clear hb2); (try clear hk); (try clear hi); have hcz24_0 : w23.cell? ⟨gb132, 0, none⟩ = some (.string x133000_1) := (blk_cell BK132.out 0).trans rfl; have hcz24_1 : w23.cell? ⟨gb132, 1, none⟩ = some (.int .i64 x133001_1) := (blk_cell BK132.out 1).trans rfl; have hcz24_2 : w23.cell? ⟨gb132, 2, none⟩ = some (.bool x133002_1) := (blk_cell BK132.out 2).trans rfl; have hfz24_0 := blk_frozen BK132.out 0; have hfz24_1 := blk_frozen BK132.out 1; have hfz24_2 := blk_frozen BK132.out 2))
                        refine bodyPost_ret (results_ctt rfl _ _ gb132 36 #[.string t139, .int .i64 t140, .bool t141] (0, 0) _ rfl (by (with_reducible repeat (first | refine blk_drewN ?_ _ | refine blk_drew ?_ | refine blk_alloc ?_ _)); refine blk_put (cs := #[.string t139, .int .i64 t140, .bool x133002_1]) ?_ 2 _ rfl; (with_reducible repeat (first | refine blk_drewN ?_ _ | refine blk_drew ?_ | refine blk_alloc ?_ _)); refine blk_put (cs := #[.string t139, .int .i64 x133001_1, .bool x133002_1]) ?_ 1 _ rfl; (with_reducible repeat (first | refine blk_drewN ?_ _ | refine blk_drew ?_ | refine blk_alloc ?_ _)); refine blk_put (cs := #[.string x133000_1, .int .i64 x133001_1, .bool x133002_1]) ?_ 0 _ rfl; (with_reducible repeat (first | refine blk_drewN ?_ _ | refine blk_drew ?_ | refine blk_alloc ?_ _)); exact BK132.out) Try.underlying36 rfl (by kernel_rfl)) rfl ?_
                        exact ⟨by first | rfl | (simp [errW_none, errW_some] <;> rfl) | (simp only [← hji9]; first | rfl | (simp [errW_none, errW_some] <;> rfl)) | (simp [*, errW_none, errW_some] <;> rfl), by repeat (first | (with_reducible first | exact HB.out | apply below_alloc | apply pw_below_drewN | apply below_drew1 | refine below_set ?_ GE132.out) | exact HB.out)⟩
                    · rw [if_neg c16] at H
                      have c16b0 : ((bt a0 (ji9)) == 1) = false := beq_eq_false_iff_ne.mpr c16
                      have c16b1 : ((bt a0 (ji9)) != 1) = true := bne_iff_ne.mpr c16
                      simp only [Option.some.injEq, Prod.mk.injEq] at H
                      obtain ⟨rfl, rfl, rfl, rfl, rfl⟩ := H
                      have p5 : 0 ≤ (x6_1 : Int) := of_decide_eq_true (by first | (with_reducible assumption) | assumption)
                      have q5 : x6_1 < (a0.size : Int) := of_decide_eq_true (by first | (with_reducible assumption) | assumption)
                      have hx5 := bt_at a0 x6_1
                      replace p5 := eq_true p5
                      replace q5 := eq_true q5
                      have p12 : 0 ≤ ((ji9) : Int) := of_decide_eq_true (by first | (with_reducible assumption) | assumption)
                      have q12 : (ji9) < (a0.size : Int) := of_decide_eq_true (by first | (with_reducible assumption) | assumption)
                      have hx12 := bt_at a0 (ji9)
                      replace p12 := eq_true p12
                      replace q12 := eq_true q12
                      have hcz25_0 : wr.cell? ⟨gb132, 0, none⟩ = some (.string x133000_1) := (blk_cell BK132.out 0).trans rfl
                      have hcz25_1 : wr.cell? ⟨gb132, 1, none⟩ = some (.int .i64 x133001_1) := (blk_cell BK132.out 1).trans rfl
                      have hcz25_2 : wr.cell? ⟨gb132, 2, none⟩ = some (.bool x133002_1) := (blk_cell BK132.out 2).trans rfl
                      have hfz25_0 := blk_frozen BK132.out 0
                      have hfz25_1 := blk_frozen BK132.out 1
                      have hfz25_2 := blk_frozen BK132.out 2
                      go_wp2
                      refine bodyPost_ret (results_ctt rfl _ _ gb132 36 #[.string (⟨#[]⟩ : ByteArray), .int .i64 0, .bool false] (0, 0) _ rfl (by (with_reducible repeat (first | refine blk_drewN ?_ _ | refine blk_drew ?_ | refine blk_alloc ?_ _)); refine blk_put (cs := #[.string (⟨#[]⟩ : ByteArray), .int .i64 0, .bool x133002_1]) ?_ 2 _ rfl; (with_reducible repeat (first | refine blk_drewN ?_ _ | refine blk_drew ?_ | refine blk_alloc ?_ _)); refine blk_put (cs := #[.string (⟨#[]⟩ : ByteArray), .int .i64 x133001_1, .bool x133002_1]) ?_ 1 _ rfl; (with_reducible repeat (first | refine blk_drewN ?_ _ | refine blk_drew ?_ | refine blk_alloc ?_ _)); refine blk_put (cs := #[.string x133000_1, .int .i64 x133001_1, .bool x133002_1]) ?_ 0 _ rfl; (with_reducible repeat (first | refine blk_drewN ?_ _ | refine blk_drew ?_ | refine blk_alloc ?_ _)); exact BK132.out) Try.underlying36 rfl (by kernel_rfl)) rfl ?_
                      exact ⟨by first | rfl | (simp [errW_none, errW_some] <;> rfl) | (simp only [← hji9]; first | rfl | (simp [errW_none, errW_some] <;> rfl)) | (simp [*, errW_none, errW_some] <;> rfl), by repeat (first | (with_reducible first | exact HB.out | apply below_alloc | apply pw_below_drewN | apply below_drew1 | refine below_set ?_ GE132.out) | exact HB.out)⟩
                · rw [if_neg c11] at H
                  exact absurd H (by simp)
              · rw [if_neg c10] at H
                exact absurd H (by simp)
          · rw [if_neg c6] at H
            have c6b0 : ((bt a0 x6_1) == 0) = false := beq_eq_false_iff_ne.mpr c6
            have c6b1 : ((bt a0 x6_1) != 0) = true := bne_iff_ne.mpr c6
            by_cases c27 : x5_1.length < 140737488355328
            · rw [if_pos c27] at H
              have LMc27 := Aside0.mk c27
              clear c27
              obtain ⟨y133, hy133⟩ : ∃ y_ : List Int, y_ = (x5_1 ++ [bt a0 x6_1]) := ⟨_, rfl⟩
              replace H : (keys_text.l0 k1 a0 y133 (wrap64 (x6_1 + 1))) = some (r1, r2, r3, r4, r5) := by first | (rw [hy133]; with_reducible exact H) | (have H2_ := (Option.bind_some _ _).symm.trans H; rw [hy133]; with_reducible exact H2_) | (have H2_ := (Option.bind_some _ _).symm.trans H; with_reducible exact H2_) | with_reducible exact H | (rw [hy133]; exact H) | exact H
              have Ny133 := Aside0.mk hy133
              clear hy133
              have H' := Aside0.mk H
              clear H
              have p5 : 0 ≤ (x6_1 : Int) := of_decide_eq_true (by first | (with_reducible assumption) | assumption)
              have q5 : x6_1 < (a0.size : Int) := of_decide_eq_true (by first | (with_reducible assumption) | assumption)
              have hx5 := bt_at a0 x6_1
              replace p5 := eq_true p5
              replace q5 := eq_true q5
              have p26 : 0 ≤ (x6_1 : Int) := of_decide_eq_true (by first | (with_reducible assumption) | assumption)
              have q26 : x6_1 < (a0.size : Int) := of_decide_eq_true (by first | (with_reducible assumption) | assumption)
              have hx26 := bt_at a0 x6_1
              replace p26 := eq_true p26
              replace q26 := eq_true q26
              go_wp2_with (first | ((with_reducible refine gate_builtin (b := .append) (xs := #[.tmp 17, .tmp 21]) rfl ?_); at_builtin; refine Kd.R_append (Kd.int .u8) (w0 := w) w.heap.size rfl (.tmp 17) (.tmp 21) 53 5 (.int .u8 0) 1 rfl Try.underlying53 info5 rfl (by decide) (by omega) u5 x5_1 (bt a0 x6_1) [.int .u8 (bt a0 x6_1)] (fun _ => True) (fun _ => False) rfl rfl ?aP (fun _ hk => hk.elim) ?aF ?aO ?aB ?aS ?aL ?_; (case aP => exact rfl); (case aB => exact (by repeat (first | (with_reducible first | exact HB.out | apply below_alloc | apply pw_below_drewN | apply below_drew1 | refine below_set ?_ GE132.out) | exact HB.out))); (case aF => exact (fun _ _ => trivial)); (case aO => exact (by (with_reducible repeat (first | apply Kd.R_alloc | apply Kd.R_drewN | apply Kd.R_drew)); exact HO_5.out)); (case aS => exact (below_size (by repeat (first | (with_reducible first | exact HB.out | apply below_alloc | apply pw_below_drewN | apply below_drew1 | refine below_set ?_ GE132.out) | exact HB.out)))); (case aL => have := LMc27.out; omega); intro v134 w28 ho hb hg hat; rw [← Ny133.out] at ho; have n0_ := Aside0.mk (blk_grown (g := gb132) (o := .cells #[.string x133000_1, .int .i64 x133001_1, .bool x133002_1] 36 (0, 0)) (by (with_reducible repeat (first | refine blk_drewN ?_ _ | refine blk_drew ?_ | refine blk_alloc ?_ _)); exact BK132.out) hg (Kd.R_ne HO_5.out BK132.out (by decide))); have n1_ := Aside0.mk (hb); have n2_ := Aside0.mk (ho); clear BK132; clear HB; clear HO_5; have BK132 := n0_; have HB := n1_; have HO135 := n2_; clear n0_ n1_ n2_; clear ho hb hg hat))
              go_roundg k1
              case measure => have := HK1.out; omega
              case rel => exact ⟨(y133), (wrap64 (x6_1 + 1)), (x133000_1), (x133001_1), (x133002_1), (by first | rfl | (simp; done) | (simp [MyBase.ne_nil]; done) | (simp [*]; done)), H', ⟨by have := HK1.out; omega⟩, ⟨by (with_reducible repeat (first | apply Kd.R_alloc | apply Kd.R_drewN | apply Kd.R_drew)); exact HO135.out⟩, ⟨by (with_reducible repeat (first | refine blk_drewN ?_ _ | refine blk_drew ?_ | refine blk_alloc ?_ _)); exact BK132.out⟩, ⟨by repeat (first | (with_reducible first | exact HB.out | apply below_alloc | apply pw_below_drewN | apply below_drew1 | refine below_set ?_ GE132.out) | exact HB.out)⟩⟩
            · rw [if_neg c27] at H
              exact absurd H (by simp)
        · rw [if_neg c4] at H
          exact absurd H (by simp)
      · rw [if_neg c3] at H
        have c3b0 : decide (x6_1 < (a0.size : Int)) = false := decide_eq_false c3
        clear c3
        simp only [Option.some.injEq, Prod.mk.injEq] at H
        obtain ⟨rfl, rfl, rfl, rfl, rfl⟩ := H
        have hcz29_0 : wr.cell? ⟨gb132, 0, none⟩ = some (.string x133000_1) := (blk_cell BK132.out 0).trans rfl
        have hcz29_1 : wr.cell? ⟨gb132, 1, none⟩ = some (.int .i64 x133001_1) := (blk_cell BK132.out 1).trans rfl
        have hcz29_2 : wr.cell? ⟨gb132, 2, none⟩ = some (.bool x133002_1) := (blk_cell BK132.out 2).trans rfl
        have hfz29_0 := blk_frozen BK132.out 0
        have hfz29_1 := blk_frozen BK132.out 1
        have hfz29_2 := blk_frozen BK132.out 2
        go_wp2
        refine bodyPost_ret (results_ctt rfl _ _ gb132 36 #[.string (⟨#[]⟩ : ByteArray), .int .i64 0, .bool false] (0, 0) _ rfl (by (with_reducible repeat (first | refine blk_drewN ?_ _ | refine blk_drew ?_ | refine blk_alloc ?_ _)); refine blk_put (cs := #[.string (⟨#[]⟩ : ByteArray), .int .i64 0, .bool x133002_1]) ?_ 2 _ rfl; (with_reducible repeat (first | refine blk_drewN ?_ _ | refine blk_drew ?_ | refine blk_alloc ?_ _)); refine blk_put (cs := #[.string (⟨#[]⟩ : ByteArray), .int .i64 x133001_1, .bool x133002_1]) ?_ 1 _ rfl; (with_reducible repeat (first | refine blk_drewN ?_ _ | refine blk_drew ?_ | refine blk_alloc ?_ _)); refine blk_put (cs := #[.string x133000_1, .int .i64 x133001_1, .bool x133002_1]) ?_ 0 _ rfl; (with_reducible repeat (first | refine blk_drewN ?_ _ | refine blk_drew ?_ | refine blk_alloc ?_ _)); exact BK132.out) Try.underlying36 rfl (by kernel_rfl)) rfl ?_
        exact ⟨by first | rfl | (simp [errW_none, errW_some] <;> rfl) | (simp [*, errW_none, errW_some] <;> rfl), by repeat (first | (with_reducible first | exact HB.out | apply below_alloc | apply pw_below_drewN | apply below_drew1 | refine below_set ?_ GE132.out) | exact HB.out)⟩


end Go.Proofs.Ytojelhacelfjkaa.PA

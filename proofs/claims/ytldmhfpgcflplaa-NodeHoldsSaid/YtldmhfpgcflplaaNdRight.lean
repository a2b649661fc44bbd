/-
  What makes a node right, plainly.
-/
import Derived.Test.YtldmhfpgcflplaaNdIns
import Derived.BigQuiet
import Derived.Laws.Cover1
set_option linter.unusedVariables false
set_option linter.unusedSimpArgs false
namespace Go.Proofs.Ytldmhfpgcflplaa
open Go Go.RowKit Go.Proofs.Ytldmhfpgcflplaa.PA Go.Proofs.YtldmhfpgcflplaaW.PrintWords NdP

def RightE (e : Ent) : Prop := e.m = false ∧ e.v.size = 2 ∧ g2 e.v ≠ 0
def RightL (p : Pg) (l : List Ent) : Prop := Sorted l ∧ (∀ e ∈ l, covers p e.k = true) ∧ (0 < p.level → ∀ e ∈ l, RightE e)
def RightP (p : Pg) : Prop := p.kind = 3 ∧ (0 < p.level → p.es ≠ []) ∧ RightL p p.es
theorem rightL_nil (p : Pg) : RightL p [] := ⟨List.Pairwise.nil, by simp, by simp⟩
theorem rightL_take {p : Pg} {l : List Ent} (h : RightL p l) (k : Nat) : RightL p (l.take k) :=
  ⟨h.1.sublist (List.take_sublist _ _), fun e he => h.2.1 e (List.mem_of_mem_take he), fun hl e he => h.2.2 hl e (List.mem_of_mem_take he)⟩
theorem take_one {l : List Ent} {k : Nat} {x : Ent} (h : l[k]? = some x) : l.take (k + 1) = l.take k ++ [x] := by
  rw [List.take_add_one, h]; rfl
theorem rightL_step {p : Pg} {l : List Ent} {k : Nat} {x : Ent} (h : l[k]? = some x) (hr : RightL p (l.take k)) (h1 : ∀ y, 0 < k → l[k - 1]? = some y → lss y.k x.k = true) (h2 : covers p x.k = true) (h3 : 0 < p.level → RightE x) : RightL p (l.take (k + 1)) := by
  rw [take_one h]
  have hk : k < l.length := by
    rcases Nat.lt_or_ge k l.length with h' | h'
    · exact h'
    · rw [List.getElem?_eq_none h'] at h; cases h
  refine ⟨List.pairwise_append.2 ⟨hr.1, by simp, ?_⟩, ?_, ?_⟩
  · intro a ha b hb
    simp only [List.mem_singleton] at hb
    subst hb
    have hk0 : 0 < k := by
      rcases Nat.eq_zero_or_pos k with h' | h'
      · subst h'; simp at ha
      · exact h'
    obtain ⟨y, hy⟩ : ∃ y, l[k - 1]? = some y := ⟨l[k - 1]'(by omega), List.getElem?_eq_getElem (by omega)⟩
    have hyx := h1 y hk0 hy
    have e1 : l.take k = l.take (k - 1) ++ [y] := by
      have := take_one hy
      rwa [show k - 1 + 1 = k by omega] at this
    rw [e1] at ha
    rcases List.mem_append.1 ha with ha | ha
    · have hs := hr.1
      rw [e1] at hs
      have := (List.pairwise_append.1 hs).2.2 a ha y (by simp)
      exact lss_trans this hyx
    · simp only [List.mem_singleton] at ha
      subst ha
      exact hyx
  · intro a ha
    rcases List.mem_append.1 ha with ha | ha
    · exact hr.2.1 a ha
    · simp only [List.mem_singleton] at ha
      subst ha
      exact h2
  · intro hl a ha
    rcases List.mem_append.1 ha with ha | ha
    · exact hr.2.2 hl a ha
    · simp only [List.mem_singleton] at ha
      subst ha
      exact h3 hl
theorem right_prev {p : Pg} {k : Nat} {x y : Ent} (hk : 0 < k) (hx : p.es[k]? = some x) (hy : p.es[k - 1]? = some y) (h : RightP p) : lss y.k x.k = true := by
  have hk1 : k < p.es.length := by
    rcases Nat.lt_or_ge k p.es.length with h' | h'
    · exact h'
    · rw [List.getElem?_eq_none h'] at hx; cases hx
  have := List.pairwise_iff_getElem.1 h.2.2.1 (k - 1) k (by omega) hk1 (by omega)
  rw [List.getElem?_eq_getElem hk1] at hx
  rw [List.getElem?_eq_getElem (by omega)] at hy
  cases hx; cases hy
  exact this
theorem right_at {p : Pg} {k : Nat} {x : Ent} (hx : p.es[k]? = some x) (h : RightP p) : covers p x.k = true ∧ (0 < p.level → RightE x) :=
  ⟨h.2.2.2.1 x (List.mem_of_getElem? hx), fun hl => h.2.2.2.2 hl x (List.mem_of_getElem? hx)⟩
theorem rt_measure {n k : Nat} (h : k < n) (hn : n ≤ 100000) : n - (intOf (.int .i64 (wrap64 ((k : Int) + 1)))).toNat < n - (intOf (.int .i64 (k : Int))).toNat := by
  rw [w1 (by omega)]
  simp only [intOf]
  omega
theorem rt_next {k n : Nat} (h : k < n) (hn : n ≤ 100000) : Value.int .i64 (wrap64 ((k : Int) + 1)) = .int .i64 ((k + 1 : Nat) : Int) := by
  rw [w1 (by omega)]
theorem Bx.drew {w : World} {b t : Nat} {cs : Array Value} (h : Bx w b cs t) : Bx w.drew b cs t := h
theorem held6b {w1 : World} {b b' t : Nat} {a0 a1 a2 a3 a4 a5 x y : Value} {ad : Addr} (h : Bx w1 b #[a0, a1, a2, a3, a4, a5] t) (hx : w1.cell? ⟨b', 0, none⟩ = some x) (hy : w1.cell? ad = some y) :
    w1.cell? ⟨b, 0, none⟩ = some a0 ∧ w1.cell? ⟨b, 1, none⟩ = some a1 ∧ w1.cell? ⟨b, 2, none⟩ = some a2 ∧ w1.cell? ⟨b, 3, none⟩ = some a3 ∧ w1.cell? ⟨b, 4, none⟩ = some a4 ∧ w1.cell? ⟨b, 5, none⟩ = some a5 ∧ w1.cell? ⟨b', 0, none⟩ = some x ∧ w1.cell? ad = some y :=
  ⟨h.cell 0, h.cell 1, h.cell 2, h.cell 3, h.cell 4, h.cell 5, hx, hy⟩
theorem held6 {w1 : World} {b b' t : Nat} {a0 a1 a2 a3 a4 a5 x : Value} (h : Bx w1 b #[a0, a1, a2, a3, a4, a5] t) (hx : w1.cell? ⟨b', 0, none⟩ = some x) :
    w1.cell? ⟨b, 0, none⟩ = some a0 ∧ w1.cell? ⟨b, 1, none⟩ = some a1 ∧ w1.cell? ⟨b, 2, none⟩ = some a2 ∧ w1.cell? ⟨b, 3, none⟩ = some a3 ∧ w1.cell? ⟨b, 4, none⟩ = some a4 ∧ w1.cell? ⟨b, 5, none⟩ = some a5 ∧ w1.cell? ⟨b', 0, none⟩ = some x :=
  ⟨h.cell 0, h.cell 1, h.cell 2, h.cell 3, h.cell 4, h.cell 5, hx⟩

section
variable {P : Program} {ops : Array Oper} {C : World → Prop} {Q : Act → Prop} {a : Act} {o : Oper} {rest : List Oper}
theorem q_want {v : Value} (hw : Region.wanted o (yielded ops a.tmps) = true) (h : ∀ w, C w → o.quietAt P a C w v) (k : wpQuiet P ops C Q rest (a.put o.dst v)) : wpQuiet P ops C Q (o :: rest) a :=
  wpQuiet_step fun K hK => by rw [if_pos hw]; exact ⟨v, h, hK _ k⟩
theorem q_pass (hw : Region.wanted o (yielded ops a.tmps) = false) (h : wpQuiet P ops C Q rest (a.put o.dst undef)) : wpQuiet P ops C Q (o :: rest) a :=
  wpQuiet_step fun K hK => by rw [if_neg (by rw [hw]; exact Bool.false_ne_true)]; exact hK _ h
end
theorem quiet_of {P : Program} {C : World → Prop} {a : Act} {o : Oper} {K : Act → Prop} {v : Value} (h : ∀ w, C w → o.quietAt P a C w v) (k : K (a.put o.dst v)) : o.quiet P a C K := ⟨v, h, k⟩
def RtPost (w : World) (p : Pg) (x : Ending) (w' : World) : Prop := ∃ r, x = .returned (.bool r) ∧ (r = true ↔ RightP p) ∧ Below w.heap.size w w'
theorem RtPost.no {w w' : World} {p : Pg} (h : ¬ RightP p) (hb : Below w.heap.size w w') : RtPost w p (.returned (.bool false)) w' := ⟨false, rfl, by simp [h], hb⟩
theorem RtPost.yes {w w' : World} {p : Pg} (h : RightP p) (hb : Below w.heap.size w w') : RtPost w p (.returned (.bool true)) w' := ⟨true, rfl, by simp [h], hb⟩
def RtRel (p : Pg) (w1 : World) (i : Value) (wr : World) : Prop := ∃ k : Nat, k ≤ p.es.length ∧ i = .int .i64 k ∧ Below w1.heap.size w1 wr ∧ RightL p (p.es.take k)

set_option maxRecDepth 100000 in
set_option maxHeartbeats 1600000 in
theorem right_hi (w : World) (lsn level right : Int) (high : ByteArray) (es : List Ent) {s : Value} (hlv : ¬ (0 < level ∧ es.length = 0)) (hs : Small es) (hr : RdN w s es) (hl0 : 0 < level) : Calls Try.prog 14 #[pgV (Pg.mk lsn 3 level right high es) s] w (RtPost w (Pg.mk lsn 3 level right high es)) := by
  unfold pgV
  simp only
  have HS := Lib.hid hs
  have HE := Lib.hid (show 0 < level → es ≠ [] from fun h he => hlv ⟨h, by rw [he]; rfl⟩)
  have HR := Lib.hid hr
  obtain ⟨A, c, rfl, hc, hm, hC⟩ := hr
  have HC := Lib.hid hC
  have HL := Lib.hid hs.1
  clear hs hC hm
  go_enter Try.func14, Try.ntmps14
  have hl1 : ¬ (es.length : Int) = 0 := fun h => hlv ⟨hl0, by omega⟩
  have hl1b : ((es.length : Int) == 0) = false := by simpa using hl1
  go_wp2_with fail
  try simp only [hl1b]
  have B0 := bx_new w #[.int .i64 lsn, .int .i64 3, .int .i64 level, .int .i64 right, .string high, .slice A es.length c] 28
  have hb0 := (Below.refl w.heap.size w).alloc (Nat.le_refl _) (Obj.cells #[.int .i64 lsn, .int .i64 3, .int .i64 level, .int .i64 right, .string high, .slice A es.length c] 28 (0, 0))
  generalize hw1 : World.alloc w _ = w1 at B0 hb0 ⊢
  clear hw1
  have HC1 := Lib.hid (Kd.C_below HC.out hb0)
  have hb1 := B0.lt
  have HB1 := Lib.hid hb1
  clear hb1
  go_loopw [22] (fun i wr => RtRel (Pg.mk lsn 3 level right high es) w1 i wr) (fun i _ => es.length - (intOf i).toNat)
  case atStart => exact ⟨0, Nat.zero_le _, rfl, Below.refl _ _, by simpa using rightL_nil _⟩
  case round =>
    obtain ⟨k, hk, rfl, hbw, hrl⟩ := hrel
    have HRL := Lib.hid hrl
    clear hrl
    have Br := B0.below hbw B0.lt
    obtain ⟨c0, c1, c2, c3, c4, c5⟩ := Br.six
    have hk : k ≤ es.length := hk
    by_cases hlt : k < es.length
    rotate_left
    · have HX : k = es.length := by omega
      have hlt' : ¬ (k : Int) < (es.length : Int) := by omega
      have HP : RightP (Pg.mk lsn 3 level right high es) := by
        refine ⟨rfl, HE.out, ?_⟩
        have h := HRL.out
        rw [HX, List.take_length] at h
        exact h
      have HPP := Lib.hid HP
      clear HP HX hlt
      go_wp2_with fail
      go_ret
      exact RtPost.yes HPP.out (hb0.trans (hbw.mono hb0.size))
    obtain ⟨x, hx⟩ : ∃ y, es[k]? = some y := ⟨es[k], by simp [hlt]⟩
    have hlt' : (k : Int) < (es.length : Int) := by omega
    obtain ⟨ad, hA, a0, a1, a2⟩ := at_T44 (Kd.C_below HC1.out hbw) (k : Int) (by omega) (by rw [List.length_map]; exact hlt')
    rw [rd44 hx] at a0 a1 a2
    rw [Int.toNat_natCast] at a0 a1 a2
    have HX := Lib.hid hx
    change wr.cell? _ = some (Value.string x.k) at a0
    change wr.cell? _ = some (Value.string x.v) at a1
    change wr.cell? _ = some (Value.bool x.m) at a2
    clear hx
    subst hA
    have HC2 := Lib.hid (Kd.C_below HC1.out hbw)
    have HR2 := Lib.hid (HR.out.below (hb0.trans (hbw.mono hb0.size)))
    have hxs : Hid (x.k.size ≤ 1000 ∧ x.v.size ≤ 1000) := HS.out.2 x (List.mem_of_getElem? HX.out)
    have hlw := Br.lt
    have HLW := Lib.hid hlw
    clear hlw
    go_wp2_with fail
    have B1 := bx_new wr #[.string x.k, .string x.v, .bool x.m] 44
    have hbq := (Below.refl wr.heap.size wr).alloc (Nat.le_refl _) (Obj.cells #[.string x.k, .string x.v, .bool x.m] 44 (0, 0))
    generalize hwq : World.alloc wr _ = wq at B1 hbq ⊢
    have F1 := Br.below hbq HLW.out
    have F1d := F1.drew
    have B1d := B1.drew
    have d0 := B1d.three.1
    clear c0 c1 c2 c3 c4 c5
    rcases Nat.eq_zero_or_pos k with hk0 | hk0
    · have hk1 : decide ((0 : Int) < (k : Int)) = false := by simp; omega
      have hk2 : decide (0 < k) = false := by simp; omega
      have HK0 := Lib.hid hk0
      clear hk0
      refine wp_region_quiet (C := fun w' => Below wq.drew.heap.size wq.drew w') (by kernel_rfl) (by kernel_rfl) (Below.refl wq.drew.heap.size wq.drew) ?_
      simp only [List.toList_toArray]
      repeat (first
        | go_big_quiet_skip
        | (go_big_quiet_want
           refine quiet_of (v := ?_) (fun wv hwv => ?_) ?_
           rotate_left
           · have h0 := old hwv d0; obtain ⟨c0, c1, c2, c3, c4, c5⟩ := (F1d.below hwv F1d.lt).six
             go_simp
             first | done | exact ⟨rfl, rfl⟩ | rfl | (refine (covers_c (p := Pg.mk lsn 3 level right high es) (((HR2.out.below hbq).below (Below.refl _ _).drew).below hwv)).mono ?_; rintro _ _ ⟨rfl, hb⟩; (refine ⟨?_, hwv.trans (hb.mono hwv.size)⟩; rfl))
           (try simp only [Act.put, List.setIfInBounds_toArray, List.set_cons_zero, List.set_cons_succ])
           go_big_quiet_on))
      refine wpQuiet_nil ?_
      intro w2 hw2
      have F2 := F1d.below hw2 F1d.lt
      have B2 := B1d.below hw2 B1d.lt
      obtain ⟨c0, c1, c2, c3, c4, c5⟩ := F2.six
      obtain ⟨e0, e1, e2⟩ := B2.three
      cases hcv : covers (Pg.mk lsn 3 level right high es) x.k
      · have HN : Hid (¬ RightP (Pg.mk lsn 3 level right high es)) := fun h => by
          have := (right_at HX.out h).1
          rw [hcv] at this
          cases this
        go_wp2_with fail
        go_ret
        exact RtPost.no HN.out (hb0.trans ((hbw.trans ((hbq.drew.trans (hw2.mono hbq.size)).mono hbw.size)).mono hb0.size))
      have HCV := Lib.hid hcv
      have hbR := hbw.trans ((hbq.drew.trans (hw2.mono hbq.size)).mono hbw.size)
      cases hm : x.m
      rotate_left
      · have HN : Hid (¬ RightP (Pg.mk lsn 3 level right high es)) := fun h => by
          have := ((right_at HX.out h).2 hl0).1
          rw [hm] at this
          cases this
        go_wp2_with fail
        go_ret
        exact RtPost.no HN.out (hb0.trans (hbR.mono hb0.size))
      by_cases hv : x.v.size = 2
      rotate_left
      · have HN : Hid (¬ RightP (Pg.mk lsn 3 level right high es)) := fun h => hv ((right_at HX.out h).2 hl0).2.1
        have hv' : ¬ (x.v.size : Int) = 2 := by omega
        go_wp2_with fail
        go_ret
        exact RtPost.no HN.out (hb0.trans (hbR.mono hb0.size))
      have HV := Lib.hid hv
      have HM := Lib.hid hm
      have hv' : (x.v.size : Int) = 2 := by omega
      clear hv
      go_wp2_with fail
      refine (get_c HV.out).mono ?_
      rintro _ w3 ⟨rfl, hb3⟩
      have hbS := hbR.trans (hb3.mono hbR.size)
      by_cases hg : g2 x.v = 0
      · have HN : Hid (¬ RightP (Pg.mk lsn 3 level right high es)) := fun h => ((right_at HX.out h).2 hl0).2.2 hg
        go_wp2_with fail
        go_ret
        exact RtPost.no HN.out (hb0.trans (hbS.mono hb0.size))
      have HG := Lib.hid hg
      go_wp2_with fail
      have hL := HL.out
      go_roundw
      case rel => exact ⟨k + 1, hlt, rt_next hlt (Nat.le_trans hL (by decide)), hbS, rightL_step HX.out HRL.out (fun y h0 _ => absurd h0 (by have := HK0.out; omega)) HCV.out (fun _ => ⟨HM.out, HV.out, HG.out⟩)⟩
      case measure => exact rt_measure hlt (Nat.le_trans hL (by decide))
    obtain ⟨j, hkj⟩ : ∃ j, k = j + 1 := ⟨k - 1, by omega⟩
    obtain ⟨y, hy⟩ : ∃ y, es[j]? = some y := ⟨es[j]'(by omega), List.getElem?_eq_getElem (by omega)⟩
    obtain ⟨ad', hA', b0, b1, b2⟩ := at_T44 HC2.out (j : Int) (by omega) (by rw [List.length_map]; omega)
    cases hA'
    rw [rd44 hy] at b0
    rw [Int.toNat_natCast] at b0
    change wr.cell? _ = some (Value.string y.k) at b0
    clear b1 b2
    have HY := Lib.hid hy
    clear hy
    have hk1 : decide ((0 : Int) < (k : Int)) = true := by simp; omega
    have hk2 : decide (0 < k) = true := by simp; omega
    have hj2 : (j : Int) < (es.length : Int) := by omega
    have hj3 : (0 : Int) ≤ (j : Int) := by omega
    have hjw : IntKind.i64.wrap ((k : Int) - 1) = (j : Int) := by rw [IntKind.wrap_i64]; have := HL.out; omega
    have dp := old hbq.drew b0
    have HKJ := Lib.hid hkj
    clear hkj hk0 b0
    cases hcmp : Op.bytesLess y.k.toList x.k.toList
    · have HN : Hid (¬ RightP (Pg.mk lsn 3 level right high es)) := fun h => by
        have := right_prev (k := k) (by have := HKJ.out; omega) HX.out (by rw [HKJ.out]; exact HY.out) h
        unfold lss at this
        rw [hcmp] at this
        cases this
      cases hb1 : Op.bytesLess x.k.toList y.k.toList
      · have hb2 : x.k.toList = y.k.toList := by
          apply Classical.byContradiction
          intro hne
          rcases less_total hne with h | h
          · rw [hb1] at h; cases h
          · rw [hcmp] at h; cases h
        refine wp_region_quiet (C := fun w' => Below wq.drew.heap.size wq.drew w') (by kernel_rfl) (by kernel_rfl) (Below.refl wq.drew.heap.size wq.drew) ?_
        simp only [List.toList_toArray]
        repeat (first
          | go_big_quiet_skip
          | (go_big_quiet_want
             refine quiet_of (v := ?_) (fun wv hwv => ?_) ?_
             rotate_left
             · have h0 := old hwv d0; have h1 := old hwv dp; obtain ⟨c0, c1, c2, c3, c4, c5⟩ := (F1d.below hwv F1d.lt).six
               go_simp
               first | done | exact ⟨rfl, rfl⟩ | rfl | (fail)
             (try simp only [Act.put, List.setIfInBounds_toArray, List.set_cons_zero, List.set_cons_succ])
             go_big_quiet_on))
        refine wpQuiet_nil ?_
        intro w2 hw2
        go_wp2_with fail
        go_ret
        exact RtPost.no HN.out (hb0.trans ((hbw.trans ((hbq.drew.trans (hw2.mono hbq.size)).mono hbw.size)).mono hb0.size))
      · skip
        refine wp_region_quiet (C := fun w' => Below wq.drew.heap.size wq.drew w') (by kernel_rfl) (by kernel_rfl) (Below.refl wq.drew.heap.size wq.drew) ?_
        simp only [List.toList_toArray]
        repeat (first
          | go_big_quiet_skip
          | (go_big_quiet_want
             refine quiet_of (v := ?_) (fun wv hwv => ?_) ?_
             rotate_left
             · have h0 := old hwv d0; have h1 := old hwv dp; obtain ⟨c0, c1, c2, c3, c4, c5⟩ := (F1d.below hwv F1d.lt).six
               go_simp
               first | done | exact ⟨rfl, rfl⟩ | rfl | (fail)
             (try simp only [Act.put, List.setIfInBounds_toArray, List.set_cons_zero, List.set_cons_succ])
             go_big_quiet_on))
        refine wpQuiet_nil ?_
        intro w2 hw2
        go_wp2_with fail
        go_ret
        exact RtPost.no HN.out (hb0.trans ((hbw.trans ((hbq.drew.trans (hw2.mono hbq.size)).mono hbw.size)).mono hb0.size))
    · have hb1 : Op.bytesLess x.k.toList y.k.toList = false := less_asymm hcmp
      have hb2 : ¬ x.k.toList = y.k.toList := fun h => by rw [h, less_irrefl] at hcmp; cases hcmp
      have hb3 : (x.k.toList == y.k.toList) = false := by simp [hb2]
      refine wp_region_quiet (C := fun w' => Below wq.drew.heap.size wq.drew w') (by kernel_rfl) (by kernel_rfl) (Below.refl wq.drew.heap.size wq.drew) ?_
      simp only [List.toList_toArray]
      repeat (first
        | go_big_quiet_skip
        | (go_big_quiet_want
           refine quiet_of (v := ?_) (fun wv hwv => ?_) ?_
           rotate_left
           · have h0 := old hwv d0; have h1 := old hwv dp; obtain ⟨c0, c1, c2, c3, c4, c5⟩ := (F1d.below hwv F1d.lt).six
             go_simp
             first | done | exact ⟨rfl, rfl⟩ | rfl | (refine (covers_c (p := Pg.mk lsn 3 level right high es) (((HR2.out.below hbq).below (Below.refl _ _).drew).below hwv)).mono ?_; rintro _ _ ⟨rfl, hb⟩; (refine ⟨?_, hwv.trans (hb.mono hwv.size)⟩; rfl))
           (try simp only [Act.put, List.setIfInBounds_toArray, List.set_cons_zero, List.set_cons_succ])
           go_big_quiet_on))
      refine wpQuiet_nil ?_
      intro w2 hw2
      have F2 := F1d.below hw2 F1d.lt
      have B2 := B1d.below hw2 B1d.lt
      obtain ⟨c0, c1, c2, c3, c4, c5⟩ := F2.six
      obtain ⟨e0, e1, e2⟩ := B2.three
      cases hcv : covers (Pg.mk lsn 3 level right high es) x.k
      · have HN : Hid (¬ RightP (Pg.mk lsn 3 level right high es)) := fun h => by
          have := (right_at HX.out h).1
          rw [hcv] at this
          cases this
        go_wp2_with fail
        go_ret
        exact RtPost.no HN.out (hb0.trans ((hbw.trans ((hbq.drew.trans (hw2.mono hbq.size)).mono hbw.size)).mono hb0.size))
      have HCV := Lib.hid hcv
      have hbR := hbw.trans ((hbq.drew.trans (hw2.mono hbq.size)).mono hbw.size)
      cases hm : x.m
      rotate_left
      · have HN : Hid (¬ RightP (Pg.mk lsn 3 level right high es)) := fun h => by
          have := ((right_at HX.out h).2 hl0).1
          rw [hm] at this
          cases this
        go_wp2_with fail
        go_ret
        exact RtPost.no HN.out (hb0.trans (hbR.mono hb0.size))
      by_cases hv : x.v.size = 2
      rotate_left
      · have HN : Hid (¬ RightP (Pg.mk lsn 3 level right high es)) := fun h => hv ((right_at HX.out h).2 hl0).2.1
        have hv' : ¬ (x.v.size : Int) = 2 := by omega
        go_wp2_with fail
        go_ret
        exact RtPost.no HN.out (hb0.trans (hbR.mono hb0.size))
      have HV := Lib.hid hv
      have HM := Lib.hid hm
      have hv' : (x.v.size : Int) = 2 := by omega
      clear hv
      go_wp2_with fail
      refine (get_c HV.out).mono ?_
      rintro _ w3 ⟨rfl, hb3⟩
      have hbS := hbR.trans (hb3.mono hbR.size)
      by_cases hg : g2 x.v = 0
      · have HN : Hid (¬ RightP (Pg.mk lsn 3 level right high es)) := fun h => ((right_at HX.out h).2 hl0).2.2 hg
        go_wp2_with fail
        go_ret
        exact RtPost.no HN.out (hb0.trans (hbS.mono hb0.size))
      have HG := Lib.hid hg
      go_wp2_with fail
      have hL := HL.out
      go_roundw
      case rel => exact ⟨k + 1, hlt, rt_next hlt (Nat.le_trans hL (by decide)), hbS, rightL_step HX.out HRL.out (fun y' _ hy' => by rw [HKJ.out, Nat.add_sub_cancel, HY.out] at hy'; cases hy'; exact hcmp) HCV.out (fun _ => ⟨HM.out, HV.out, HG.out⟩)⟩
      case measure => exact rt_measure hlt (Nat.le_trans hL (by decide))
set_option maxRecDepth 100000 in
set_option maxHeartbeats 1600000 in
theorem right_lo (w : World) (lsn level right : Int) (high : ByteArray) (es : List Ent) {s : Value} (hlv : ¬ (0 < level ∧ es.length = 0)) (hs : Small es) (hr : RdN w s es) (hl0 : ¬ 0 < level) : Calls Try.prog 14 #[pgV (Pg.mk lsn 3 level right high es) s] w (RtPost w (Pg.mk lsn 3 level right high es)) := by
  unfold pgV
  simp only
  have HS := Lib.hid hs
  have HE := Lib.hid (show 0 < level → es ≠ [] from fun h he => hlv ⟨h, by rw [he]; rfl⟩)
  have HR := Lib.hid hr
  obtain ⟨A, c, rfl, hc, hm, hC⟩ := hr
  have HC := Lib.hid hC
  have HL := Lib.hid hs.1
  clear hs hC hm
  go_enter Try.func14, Try.ntmps14
  go_wp2_with fail
  have B0 := bx_new w #[.int .i64 lsn, .int .i64 3, .int .i64 level, .int .i64 right, .string high, .slice A es.length c] 28
  have hb0 := (Below.refl w.heap.size w).alloc (Nat.le_refl _) (Obj.cells #[.int .i64 lsn, .int .i64 3, .int .i64 level, .int .i64 right, .string high, .slice A es.length c] 28 (0, 0))
  generalize hw1 : World.alloc w _ = w1 at B0 hb0 ⊢
  clear hw1
  have HC1 := Lib.hid (Kd.C_below HC.out hb0)
  have hb1 := B0.lt
  have HB1 := Lib.hid hb1
  clear hb1
  go_loopw [22] (fun i wr => RtRel (Pg.mk lsn 3 level right high es) w1 i wr) (fun i _ => es.length - (intOf i).toNat)
  case atStart => exact ⟨0, Nat.zero_le _, rfl, Below.refl _ _, by simpa using rightL_nil _⟩
  case round =>
    obtain ⟨k, hk, rfl, hbw, hrl⟩ := hrel
    have HRL := Lib.hid hrl
    clear hrl
    have Br := B0.below hbw B0.lt
    obtain ⟨c0, c1, c2, c3, c4, c5⟩ := Br.six
    have hk : k ≤ es.length := hk
    by_cases hlt : k < es.length
    rotate_left
    · have HX : k = es.length := by omega
      have hlt' : ¬ (k : Int) < (es.length : Int) := by omega
      have HP : RightP (Pg.mk lsn 3 level right high es) := by
        refine ⟨rfl, HE.out, ?_⟩
        have h := HRL.out
        rw [HX, List.take_length] at h
        exact h
      have HPP := Lib.hid HP
      clear HP HX hlt
      go_wp2_with fail
      go_ret
      exact RtPost.yes HPP.out (hb0.trans (hbw.mono hb0.size))
    obtain ⟨x, hx⟩ : ∃ y, es[k]? = some y := ⟨es[k], by simp [hlt]⟩
    have hlt' : (k : Int) < (es.length : Int) := by omega
    obtain ⟨ad, hA, a0, a1, a2⟩ := at_T44 (Kd.C_below HC1.out hbw) (k : Int) (by omega) (by rw [List.length_map]; exact hlt')
    rw [rd44 hx] at a0 a1 a2
    rw [Int.toNat_natCast] at a0 a1 a2
    have HX := Lib.hid hx
    change wr.cell? _ = some (Value.string x.k) at a0
    change wr.cell? _ = some (Value.string x.v) at a1
    change wr.cell? _ = some (Value.bool x.m) at a2
    clear hx
    subst hA
    have HC2 := Lib.hid (Kd.C_below HC1.out hbw)
    have HR2 := Lib.hid (HR.out.below (hb0.trans (hbw.mono hb0.size)))
    have hxs : Hid (x.k.size ≤ 1000 ∧ x.v.size ≤ 1000) := HS.out.2 x (List.mem_of_getElem? HX.out)
    have hlw := Br.lt
    have HLW := Lib.hid hlw
    clear hlw
    go_wp2_with fail
    have B1 := bx_new wr #[.string x.k, .string x.v, .bool x.m] 44
    have hbq := (Below.refl wr.heap.size wr).alloc (Nat.le_refl _) (Obj.cells #[.string x.k, .string x.v, .bool x.m] 44 (0, 0))
    generalize hwq : World.alloc wr _ = wq at B1 hbq ⊢
    have F1 := Br.below hbq HLW.out
    have F1d := F1.drew
    have B1d := B1.drew
    have d0 := B1d.three.1
    clear c0 c1 c2 c3 c4 c5
    rcases Nat.eq_zero_or_pos k with hk0 | hk0
    · have hk1 : decide ((0 : Int) < (k : Int)) = false := by simp; omega
      have hk2 : decide (0 < k) = false := by simp; omega
      have HK0 := Lib.hid hk0
      clear hk0
      refine wp_region_quiet (C := fun w' => Below wq.drew.heap.size wq.drew w') (by kernel_rfl) (by kernel_rfl) (Below.refl wq.drew.heap.size wq.drew) ?_
      simp only [List.toList_toArray]
      repeat (first
        | go_big_quiet_skip
        | (go_big_quiet_want
           refine quiet_of (v := ?_) (fun wv hwv => ?_) ?_
           rotate_left
           · have h0 := old hwv d0; obtain ⟨c0, c1, c2, c3, c4, c5⟩ := (F1d.below hwv F1d.lt).six
             go_simp
             first | done | exact ⟨rfl, rfl⟩ | rfl | (refine (covers_c (p := Pg.mk lsn 3 level right high es) (((HR2.out.below hbq).below (Below.refl _ _).drew).below hwv)).mono ?_; rintro _ _ ⟨rfl, hb⟩; (refine ⟨?_, hwv.trans (hb.mono hwv.size)⟩; rfl))
           (try simp only [Act.put, List.setIfInBounds_toArray, List.set_cons_zero, List.set_cons_succ])
           go_big_quiet_on))
      refine wpQuiet_nil ?_
      intro w2 hw2
      have F2 := F1d.below hw2 F1d.lt
      have B2 := B1d.below hw2 B1d.lt
      obtain ⟨c0, c1, c2, c3, c4, c5⟩ := F2.six
      obtain ⟨e0, e1, e2⟩ := B2.three
      cases hcv : covers (Pg.mk lsn 3 level right high es) x.k
      · have HN : Hid (¬ RightP (Pg.mk lsn 3 level right high es)) := fun h => by
          have := (right_at HX.out h).1
          rw [hcv] at this
          cases this
        go_wp2_with fail
        go_ret
        exact RtPost.no HN.out (hb0.trans ((hbw.trans ((hbq.drew.trans (hw2.mono hbq.size)).mono hbw.size)).mono hb0.size))
      have HCV := Lib.hid hcv
      have hbR := hbw.trans ((hbq.drew.trans (hw2.mono hbq.size)).mono hbw.size)
      go_wp2_with fail
      have hL := HL.out
      go_roundw
      case rel => exact ⟨k + 1, hlt, rt_next hlt (Nat.le_trans hL (by decide)), hbR, rightL_step HX.out HRL.out (fun y h0 _ => absurd h0 (by have := HK0.out; omega)) HCV.out (fun h => by simp only at h; omega)⟩
      case measure => exact rt_measure hlt (Nat.le_trans hL (by decide))
    obtain ⟨j, hkj⟩ : ∃ j, k = j + 1 := ⟨k - 1, by omega⟩
    obtain ⟨y, hy⟩ : ∃ y, es[j]? = some y := ⟨es[j]'(by omega), List.getElem?_eq_getElem (by omega)⟩
    obtain ⟨ad', hA', b0, b1, b2⟩ := at_T44 HC2.out (j : Int) (by omega) (by rw [List.length_map]; omega)
    cases hA'
    rw [rd44 hy] at b0
    rw [Int.toNat_natCast] at b0
    change wr.cell? _ = some (Value.string y.k) at b0
    clear b1 b2
    have HY := Lib.hid hy
    clear hy
    have hk1 : decide ((0 : Int) < (k : Int)) = true := by simp; omega
    have hk2 : decide (0 < k) = true := by simp; omega
    have hj2 : (j : Int) < (es.length : Int) := by omega
    have hj3 : (0 : Int) ≤ (j : Int) := by omega
    have hjw : IntKind.i64.wrap ((k : Int) - 1) = (j : Int) := by rw [IntKind.wrap_i64]; have := HL.out; omega
    have dp := old hbq.drew b0
    have HKJ := Lib.hid hkj
    clear hkj hk0 b0
    cases hcmp : Op.bytesLess y.k.toList x.k.toList
    · have HN : Hid (¬ RightP (Pg.mk lsn 3 level right high es)) := fun h => by
        have := right_prev (k := k) (by have := HKJ.out; omega) HX.out (by rw [HKJ.out]; exact HY.out) h
        unfold lss at this
        rw [hcmp] at this
        cases this
      cases hb1 : Op.bytesLess x.k.toList y.k.toList
      · have hb2 : x.k.toList = y.k.toList := by
          apply Classical.byContradiction
          intro hne
          rcases less_total hne with h | h
          · rw [hb1] at h; cases h
          · rw [hcmp] at h; cases h
        refine wp_region_quiet (C := fun w' => Below wq.drew.heap.size wq.drew w') (by kernel_rfl) (by kernel_rfl) (Below.refl wq.drew.heap.size wq.drew) ?_
        simp only [List.toList_toArray]
        repeat (first
          | go_big_quiet_skip
          | (go_big_quiet_want
             refine quiet_of (v := ?_) (fun wv hwv => ?_) ?_
             rotate_left
             · have h0 := old hwv d0; have h1 := old hwv dp; obtain ⟨c0, c1, c2, c3, c4, c5⟩ := (F1d.below hwv F1d.lt).six
               go_simp
               first | done | exact ⟨rfl, rfl⟩ | rfl | (fail)
             (try simp only [Act.put, List.setIfInBounds_toArray, List.set_cons_zero, List.set_cons_succ])
             go_big_quiet_on))
        refine wpQuiet_nil ?_
        intro w2 hw2
        go_wp2_with fail
        go_ret
        exact RtPost.no HN.out (hb0.trans ((hbw.trans ((hbq.drew.trans (hw2.mono hbq.size)).mono hbw.size)).mono hb0.size))
      · skip
        refine wp_region_quiet (C := fun w' => Below wq.drew.heap.size wq.drew w') (by kernel_rfl) (by kernel_rfl) (Below.refl wq.drew.heap.size wq.drew) ?_
        simp only [List.toList_toArray]
        repeat (first
          | go_big_quiet_skip
          | (go_big_quiet_want
             refine quiet_of (v := ?_) (fun wv hwv => ?_) ?_
             rotate_left
             · have h0 := old hwv d0; have h1 := old hwv dp; obtain ⟨c0, c1, c2, c3, c4, c5⟩ := (F1d.below hwv F1d.lt).six
               go_simp
               first | done | exact ⟨rfl, rfl⟩ | rfl | (fail)
             (try simp only [Act.put, List.setIfInBounds_toArray, List.set_cons_zero, List.set_cons_succ])
             go_big_quiet_on))
        refine wpQuiet_nil ?_
        intro w2 hw2
        go_wp2_with fail
        go_ret
        exact RtPost.no HN.out (hb0.trans ((hbw.trans ((hbq.drew.trans (hw2.mono hbq.size)).mono hbw.size)).mono hb0.size))
    · have hb1 : Op.bytesLess x.k.toList y.k.toList = false := less_asymm hcmp
      have hb2 : ¬ x.k.toList = y.k.toList := fun h => by rw [h, less_irrefl] at hcmp; cases hcmp
      have hb3 : (x.k.toList == y.k.toList) = false := by simp [hb2]
      refine wp_region_quiet (C := fun w' => Below wq.drew.heap.size wq.drew w') (by kernel_rfl) (by kernel_rfl) (Below.refl wq.drew.heap.size wq.drew) ?_
      simp only [List.toList_toArray]
      repeat (first
        | go_big_quiet_skip
        | (go_big_quiet_want
           refine quiet_of (v := ?_) (fun wv hwv => ?_) ?_
           rotate_left
           · have h0 := old hwv d0; have h1 := old hwv dp; obtain ⟨c0, c1, c2, c3, c4, c5⟩ := (F1d.below hwv F1d.lt).six
             go_simp
             first | done | exact ⟨rfl, rfl⟩ | rfl | (refine (covers_c (p := Pg.mk lsn 3 level right high es) (((HR2.out.below hbq).below (Below.refl _ _).drew).below hwv)).mono ?_; rintro _ _ ⟨rfl, hb⟩; (refine ⟨?_, hwv.trans (hb.mono hwv.size)⟩; rfl))
           (try simp only [Act.put, List.setIfInBounds_toArray, List.set_cons_zero, List.set_cons_succ])
           go_big_quiet_on))
      refine wpQuiet_nil ?_
      intro w2 hw2
      have F2 := F1d.below hw2 F1d.lt
      have B2 := B1d.below hw2 B1d.lt
      obtain ⟨c0, c1, c2, c3, c4, c5⟩ := F2.six
      obtain ⟨e0, e1, e2⟩ := B2.three
      cases hcv : covers (Pg.mk lsn 3 level right high es) x.k
      · have HN : Hid (¬ RightP (Pg.mk lsn 3 level right high es)) := fun h => by
          have := (right_at HX.out h).1
          rw [hcv] at this
          cases this
        go_wp2_with fail
        go_ret
        exact RtPost.no HN.out (hb0.trans ((hbw.trans ((hbq.drew.trans (hw2.mono hbq.size)).mono hbw.size)).mono hb0.size))
      have HCV := Lib.hid hcv
      have hbR := hbw.trans ((hbq.drew.trans (hw2.mono hbq.size)).mono hbw.size)
      go_wp2_with fail
      have hL := HL.out
      go_roundw
      case rel => exact ⟨k + 1, hlt, rt_next hlt (Nat.le_trans hL (by decide)), hbR, rightL_step HX.out HRL.out (fun y' _ hy' => by rw [HKJ.out, Nat.add_sub_cancel, HY.out] at hy'; cases hy'; exact hcmp) HCV.out (fun h => by simp only at h; omega)⟩
      case measure => exact rt_measure hlt (Nat.le_trans hL (by decide))
set_option maxRecDepth 100000 in
set_option maxHeartbeats 1600000 in
theorem right_c (p : Pg) {s : Value} (w : World) (hs : Small p.es) (hr : RdN w s p.es) : Calls Try.prog 14 #[pgV p s] w (RtPost w p) := by
  by_cases hkd : p.kind = 3
  rotate_left
  · have HN : ¬ RightP p := fun h => hkd h.1
    have H := Lib.hid HN
    clear HN
    obtain ⟨A, c, rfl, _⟩ := hr
    unfold pgV
    go_enter Try.func14, Try.ntmps14
    go_wp2_with fail
    go_ret
    exact RtPost.no H.out (by repeat (first | exact Below.refl _ _ | refine Below.drew ?_ | refine Below.alloc ?_ (by simp) _))
  by_cases hlv : 0 < p.level ∧ p.es.length = 0
  · have HN : ¬ RightP p := fun h => h.2.1 hlv.1 (List.length_eq_zero_iff.1 hlv.2)
    have H := Lib.hid HN
    clear HN
    obtain ⟨A, c, rfl, _⟩ := hr
    obtain ⟨hl1, hl2⟩ := hlv
    rw [hl2]
    unfold pgV
    go_enter Try.func14, Try.ntmps14
    go_wp2_with fail
    go_ret
    exact RtPost.no H.out (by repeat (first | exact Below.refl _ _ | refine Below.drew ?_ | refine Below.alloc ?_ (by simp) _))
  obtain ⟨lsn, kind, level, right, high, es⟩ := p
  simp only at hs hr hkd hlv
  subst hkd
  by_cases hl0 : 0 < level
  · exact right_hi w lsn level right high es hlv hs hr hl0
  · exact right_lo w lsn level right high es hlv hs hr hl0
end Go.Proofs.Ytldmhfpgcflplaa

/-
  The reference's Right.
-/
import Derived.Test.YtldmhfpgcflplaaNdRIns
import Derived.Deep.DeepCutAuto
set_option linter.unusedVariables false
set_option linter.unusedSimpArgs false
namespace Go.Proofs.Ytldmhfpgcflplaa
open Go Go.RowKit Go.Proofs.Ytldmhfpgcflplaa.PA Go.Proofs.YtldmhfpgcflplaaW.PrintWords NdP

theorem qC_of_rd {w : World} {A : Option Addr} {n c : Nat} {l : List Ent} (h : RdQ w (.slice A n c) l) : Kd.C k56 w A (l.map c56).length (l.map c56) := by
  obtain ⟨A', c', he, _, _, h3⟩ := h
  injection he with e1 _ _
  subst e1
  exact h3
/-- What the test in a round finds wrong. -/
def Bad (p : Pg) (k : Nat) (x : Ent) : Prop := (∃ y, 0 < k ∧ p.es[k - 1]? = some y ∧ lss y.k x.k = false) ∨ covers p x.k = false
theorem bad_prev {p : Pg} {k : Nat} {x y : Ent} (h0 : 0 < k) (h1 : p.es[k - 1]? = some y) (h2 : lss y.k x.k = false) : Bad p k x := Or.inl ⟨y, h0, h1, h2⟩
theorem not_bad {p : Pg} {k : Nat} {x : Ent} (h1 : ∀ y, 0 < k → p.es[k - 1]? = some y → lss y.k x.k = true) (h2 : covers p x.k = true) : ¬ Bad p k x := by
  rintro (⟨y, h0, hy, hl⟩ | h)
  · rw [h1 y h0 hy] at hl; cases hl
  · rw [h2] at h; cases h
theorem cov_nil {p : Pg} (h : p.high.toList = []) (k : ByteArray) : covers p k = true := by unfold covers; simp [h]
theorem cov_lt {p : Pg} {k : ByteArray} (h : Op.bytesLess k.toList p.high.toList = true) : covers p k = true := by unfold covers lss; simp [h]
theorem cov_not {p : Pg} {k : ByteArray} (hE : ¬ p.high.toList = []) (h : Op.bytesLess k.toList p.high.toList = false) : covers p k = false := by unfold covers lss; simp [h, hE]
theorem g2_lt (v : ByteArray) : (g2 v < 1 ↔ g2 v = 0) := by
  have h0 := bt_range v 0
  have h1 := bt_range v 1
  unfold g2
  omega

set_option maxRecDepth 100000 in
set_option maxHeartbeats 3200000 in
theorem rright_c (p : Pg) {s : Value} (w : World) (hs : Small p.es) (hr : RdQ w s p.es) : Calls Try.prog 10 #[pgV p s] w (RtPost w p) := by
  by_cases hkd : p.kind = 3
  rotate_left
  · obtain ⟨A, c, rfl, _⟩ := hr
    unfold pgV
    go_enter Try.func10, Try.ntmps10
    go_wp2_with fail
    go_ret
    exact RtPost.no (fun h => hkd h.1) ((Below.refl _ _).alloc (Nat.le_refl _) _)
  have HKD := Lib.hid hkd
  have hk3 : (p.kind == 3) = true := by simp [hkd]
  have hkn : (p.kind != 3) = false := by simp [hkd]
  have HS := Lib.hid hs
  have HR := Lib.hid hr
  obtain ⟨A, c, rfl, hc, hm, hC⟩ := hr
  have HC := Lib.hid hC
  have HL := Lib.hid hs.1
  clear hs hC hm hkd
  unfold pgV
  go_enter Try.func10, Try.ntmps10
  go_wp2_with fail
  have B0 := bx_new w #[.int .i64 p.lsn, .int .i64 p.kind, .int .i64 p.level, .int .i64 p.right, .string p.high, .slice A p.es.length c] 31
  have hb0 := (Below.refl w.heap.size w).alloc (Nat.le_refl _) (Obj.cells #[.int .i64 p.lsn, .int .i64 p.kind, .int .i64 p.level, .int .i64 p.right, .string p.high, .slice A p.es.length c] 31 (0, 0))
  generalize hw1 : World.alloc w _ = w1 at B0 hb0 ⊢
  clear hw1
  have HC1 := Lib.hid (Kd.C_below HC.out hb0)
  go_loopw [3] (fun i wr => RtRel p w1 i wr) (fun i _ => p.es.length - (intOf i).toNat)
  case atStart => exact ⟨0, Nat.zero_le _, rfl, Below.refl _ _, by simpa using rightL_nil _⟩
  case round =>
    obtain ⟨k, hk, rfl, hbw, hrl⟩ := hrel
    have HRL := Lib.hid hrl
    clear hrl
    have Br := B0.below hbw B0.lt
    obtain ⟨c0, c1, c2, c3, c4, c5⟩ := Br.six
    by_cases hlt : k < p.es.length
    rotate_left
    · have HKL : Hid (k = p.es.length) := by unfold Hid; omega
      have hlt' : ¬ (k : Int) < (p.es.length : Int) := by omega
      have HRP : Hid ((0 < p.level → p.es ≠ []) → RightP p) := fun h => ⟨HKD.out, h, by have := HRL.out; rwa [HKL.out, List.take_length] at this⟩
      have hbE := hb0.trans (hbw.mono hb0.size)
      by_cases hl0 : p.level ≤ 0
      · have hl1 : decide (p.level ≤ 0) = true := by simp [hl0]
        have HP : Hid (RightP p) := HRP.out (fun h => absurd h (by omega))
        go_wp2_with fail
        go_ret
        exact RtPost.yes HP.out hbE
      · have hl1 : decide (p.level ≤ 0) = false := by simp; omega
        by_cases hn : 0 < p.es.length
        · have HP : Hid (RightP p) := HRP.out (fun _ he => by rw [he] at hn; cases hn)
          have hn1 : decide (0 < p.es.length) = true := by simp [hn]
          have hn2 : decide ((0 : Int) < (p.es.length : Int)) = true := by simp; omega
          go_wp2_with fail
          go_ret
          exact RtPost.yes HP.out hbE
        · have HN : Hid (¬ RightP p) := fun h => h.2.1 (by omega) (List.eq_nil_of_length_eq_zero (by omega))
          have hn1 : decide (0 < p.es.length) = false := decide_eq_false hn
          have hn2 : decide ((0 : Int) < (p.es.length : Int)) = false := decide_eq_false (by omega)
          go_wp2_with fail
          go_ret
          exact RtPost.no HN.out hbE
    obtain ⟨x, hx⟩ : ∃ y, p.es[k]? = some y := ⟨p.es[k], by simp [hlt]⟩
    have hlt' : (k : Int) < (p.es.length : Int) := by omega
    obtain ⟨ad, hA, a0, a1, a2⟩ := at_T56 (Kd.C_below HC1.out hbw) (k : Int) (by omega) (by rw [List.length_map]; exact hlt')
    rw [rd56 hx] at a0 a1 a2
    rw [Int.toNat_natCast] at a0 a1 a2
    have HX := Lib.hid hx
    change wr.cell? _ = some (Value.string x.k) at a0
    change wr.cell? _ = some (Value.string x.v) at a1
    change wr.cell? _ = some (Value.bool x.m) at a2
    clear hx
    subst hA
    have HC2 := Lib.hid (Kd.C_below HC1.out hbw)
    have hxs : Hid (x.k.size ≤ 1000 ∧ x.v.size ≤ 1000) := HS.out.2 x (List.mem_of_getElem? HX.out)
    have hlw := Br.lt
    go_wp2_with fail
    have B1 := bx_new wr #[.string x.k, .string x.v, .bool x.m] 56
    have hbq := (Below.refl wr.heap.size wr).alloc (Nat.le_refl _) (Obj.cells #[.string x.k, .string x.v, .bool x.m] 56 (0, 0))
    generalize hwq : World.alloc wr _ = wq at B1 hbq ⊢
    have Bq := Br.below hbq Br.lt
    have HC3 := Lib.hid (Kd.C_below HC2.out hbq)
    clear c0 c1 c2 c3 c4 c5 a0 a1 a2 hwq
    obtain ⟨e0, e1, e2⟩ := B1.three
    obtain ⟨c0, c1, c2, c3, c4, c5⟩ := Bq.six
    go_cut [45] (fun s45 wx => ∃ b : Bool, s45 = .bool b ∧ (b = true ↔ Bad p k x) ∧ Below wr.heap.size wr wx ∧ Bx wx wr.heap.size #[.string x.k, .string x.v, .bool x.m] 56)
    case first =>
      rcases Nat.eq_zero_or_pos k with hk0 | hk0
      · have hk1 : decide ((0 : Int) < (k : Int)) = false := by simp; omega
        have hk2 : decide (0 < k) = false := by simp; omega
        have HK0 := Lib.hid hk0
        clear hk0
        by_cases hE : p.high.toList = []
        · have hE2 : (!p.high.toList.isEmpty) = false := by simp [hE]
          have HB : Hid (¬ Bad p k x) := not_bad (fun y h0 _ => absurd h0 (by have := HK0.out; omega)) (cov_nil hE _)
          clear hE
          go_quiet (fail)
          go_wp2_with fail
          go_meet
          case rel => exact ⟨false, rfl, ⟨fun h => (by cases h), fun h => absurd h HB.out⟩, hbq.trans ⟨rfl, rfl, rfl, Nat.le_refl _, fun _ _ => rfl⟩, Bx.drew B1⟩
        have hE2 : (!p.high.toList.isEmpty) = true := by simp [hE]
        cases hlx : Op.bytesLess x.k.toList p.high.toList
        · have hge : (!Op.bytesLess x.k.toList p.high.toList) = true := by rw [hlx]; rfl
          have HB : Hid (Bad p k x) := Or.inr (cov_not hE hlx)
          clear hE hlx
          go_quiet (fail)
          go_wp2_with fail
          go_meet
          case rel => exact ⟨true, rfl, ⟨fun _ => HB.out, fun _ => rfl⟩, hbq.trans ⟨rfl, rfl, rfl, Nat.le_refl _, fun _ _ => rfl⟩, Bx.drew B1⟩
        · have hge : (!Op.bytesLess x.k.toList p.high.toList) = false := by rw [hlx]; rfl
          have HB : Hid (¬ Bad p k x) := not_bad (fun y h0 _ => absurd h0 (by have := HK0.out; omega)) (cov_lt hlx)
          clear hE hlx
          go_quiet (fail)
          go_wp2_with fail
          go_meet
          case rel => exact ⟨false, rfl, ⟨fun h => (by cases h), fun h => absurd h HB.out⟩, hbq.trans ⟨rfl, rfl, rfl, Nat.le_refl _, fun _ _ => rfl⟩, Bx.drew B1⟩
      · have hk1 : decide ((0 : Int) < (k : Int)) = true := by simp; omega
        have hk2 : decide (0 < k) = true := by simp; omega
        obtain ⟨j, hj⟩ : ∃ j, k = j + 1 := ⟨k - 1, by omega⟩
        obtain ⟨y, hy⟩ : ∃ y, p.es[j]? = some y := ⟨p.es[j]'(by omega), List.getElem?_eq_getElem (by omega)⟩
        have hjl : (j : Int) < (p.es.length : Int) := by omega
        have hj0 : (0 : Int) ≤ (j : Int) := by omega
        have hs1 : IntKind.i64.wrap ((k : Int) - 1) = (j : Int) := by rw [IntKind.wrap_i64]; have := HL.out; omega
        obtain ⟨ad', hA', d0, d1, d2⟩ := at_T56 HC3.out (j : Int) (by omega) (by rw [List.length_map]; exact hjl)
        rw [rd56 hy] at d0 d1 d2
        rw [Int.toNat_natCast] at d0 d1 d2
        change wq.cell? _ = some (Value.string y.k) at d0
        injection hA' with hA'
        subst hA'
        have HY : Hid (p.es[k - 1]? = some y) := by unfold Hid; rw [hj, Nat.add_sub_cancel]; exact hy
        have HK0 := Lib.hid hk0
        clear hy hj hk0 d1 d2
        cases hyx : Op.bytesLess y.k.toList x.k.toList
        · have hyx2 : (!Op.bytesLess y.k.toList x.k.toList) = true := by rw [hyx]; rfl
          have HB : Hid (Bad p k x) := bad_prev HK0.out HY.out hyx
          clear hyx
          go_quiet (fail)
          go_wp2_with fail
          go_meet
          case rel => exact ⟨true, rfl, ⟨fun _ => HB.out, fun _ => rfl⟩, hbq.trans ⟨rfl, rfl, rfl, Nat.le_refl _, fun _ _ => rfl⟩, Bx.drew B1⟩
        · have hyx2 : (!Op.bytesLess y.k.toList x.k.toList) = false := by rw [hyx]; rfl
          have HYX : Hid (lss y.k x.k = true) := hyx
          clear hyx
          by_cases hE : p.high.toList = []
          · have hE2 : (!p.high.toList.isEmpty) = false := by simp [hE]
            have HB : Hid (¬ Bad p k x) := not_bad (fun y' _ hy' => by rw [HY.out] at hy'; cases hy'; exact HYX.out) (cov_nil hE _)
            clear hE
            go_quiet (fail)
            go_wp2_with fail
            go_meet
            case rel => exact ⟨false, rfl, ⟨fun h => (by cases h), fun h => absurd h HB.out⟩, hbq.trans ⟨rfl, rfl, rfl, Nat.le_refl _, fun _ _ => rfl⟩, Bx.drew B1⟩
          have hE2 : (!p.high.toList.isEmpty) = true := by simp [hE]
          cases hlx : Op.bytesLess x.k.toList p.high.toList
          · have hge : (!Op.bytesLess x.k.toList p.high.toList) = true := by rw [hlx]; rfl
            have HB : Hid (Bad p k x) := Or.inr (cov_not hE hlx)
            clear hE hlx
            go_quiet (fail)
            go_wp2_with fail
            go_meet
            case rel => exact ⟨true, rfl, ⟨fun _ => HB.out, fun _ => rfl⟩, hbq.trans ⟨rfl, rfl, rfl, Nat.le_refl _, fun _ _ => rfl⟩, Bx.drew B1⟩
          · have hge : (!Op.bytesLess x.k.toList p.high.toList) = false := by rw [hlx]; rfl
            have HB : Hid (¬ Bad p k x) := not_bad (fun y' _ hy' => by rw [HY.out] at hy'; cases hy'; exact HYX.out) (cov_lt hlx)
            clear hE hlx
            go_quiet (fail)
            go_wp2_with fail
            go_meet
            case rel => exact ⟨false, rfl, ⟨fun h => (by cases h), fun h => absurd h HB.out⟩, hbq.trans ⟨rfl, rfl, rfl, Nat.le_refl _, fun _ _ => rfl⟩, Bx.drew B1⟩
    case rest =>
      obtain ⟨b, rfl, hb, hbc, Bc⟩ := hcut
      have hB := Lib.hid hb
      clear hb
      cases b
      rotate_left
      · have HN : Hid (¬ RightP p) := fun h => by
          rcases hB.out.1 rfl with ⟨y, h0, hy, hl⟩ | hcv
          · rw [right_prev h0 HX.out hy h] at hl; cases hl
          · rw [(right_at HX.out h).1] at hcv; cases hcv
        go_wp2_with fail
        go_ret
        exact RtPost.no HN.out (hb0.trans ((hbw.trans (hbc.mono hbw.size)).mono hb0.size))
      have HNB : Hid (¬ Bad p k x) := fun h => by have := hB.out.2 h; cases this
      clear hB
      obtain ⟨e0', e1', e2'⟩ := Bc.three
      have Bp := Br.below hbc Br.lt
      obtain ⟨c0', c1', c2', c3', c4', c5'⟩ := Bp.six
      have hbS := hbw.trans (hbc.mono hbw.size)
      clear e0 e1 e2 c0 c1 c2 c3 c4 c5
      have HPV : Hid (∀ y, 0 < k → p.es[k - 1]? = some y → lss y.k x.k = true) := fun y h0 hy => by
        cases hl : lss y.k x.k
        · exact absurd (bad_prev h0 hy hl) HNB.out
        · rfl
      have HCV : Hid (covers p x.k = true) := by
        cases hl : covers p x.k
        · exact absurd (Or.inr hl) HNB.out
        · rfl
      by_cases hl0 : 0 < p.level
      rotate_left
      · have hl1 : decide (0 < p.level) = false := by simp; omega
        have HL0 := Lib.hid hl0
        clear hl0
        go_wp2_with fail
        have hL := HL.out
        go_roundw
        case rel => exact ⟨k + 1, hlt, rt_next hlt (Nat.le_trans hL (by decide)), hbS, rightL_step HX.out HRL.out HPV.out HCV.out (fun h => absurd h HL0.out)⟩
        case measure => exact rt_measure hlt (Nat.le_trans hL (by decide))
      have hl1 : decide (0 < p.level) = true := by simp; omega
      have HL0 := Lib.hid hl0
      cases hm : x.m
      rotate_left
      · have HN : Hid (¬ RightP p) := fun h => by have := ((right_at HX.out h).2 HL0.out).1; rw [hm] at this; cases this
        rw [hm] at e2'
        clear hm
        go_wp2_with fail
        go_ret
        exact RtPost.no HN.out (hb0.trans (hbS.mono hb0.size))
      rw [hm] at e2'
      have HM := Lib.hid hm
      clear hm
      by_cases hv : x.v.size = 2
      rotate_left
      · have HN : Hid (¬ RightP p) := fun h => hv ((right_at HX.out h).2 HL0.out).2.1
        have hv' : ¬ (x.v.size : Int) = 2 := by omega
        have hv2 : ((x.v.size : Int) != 2) = true := by rw [bne_iff_ne]; exact hv'
        clear hv
        go_wp2_with fail
        go_ret
        exact RtPost.no HN.out (hb0.trans (hbS.mono hb0.size))
      have HV := Lib.hid hv
      have hv' : (x.v.size : Int) = 2 := by omega
      have hv2 : ((x.v.size : Int) != 2) = false := by simp [hv']
      clear hv
      go_wp2_with fail
      refine (rget_c HV.out).mono ?_
      rintro _ w3 ⟨rfl, hb3⟩
      have hbT := hbS.trans (hb3.mono hbS.size)
      by_cases hg : g2 x.v < 1
      · have HN : Hid (¬ RightP p) := fun h => ((right_at HX.out h).2 HL0.out).2.2 ((g2_lt _).1 hg)
        go_wp2_with fail
        go_ret
        exact RtPost.no HN.out (hb0.trans (hbT.mono hb0.size))
      have HG : Hid (g2 x.v ≠ 0) := fun h => hg ((g2_lt _).2 h)
      go_wp2_with fail
      have hL := HL.out
      go_roundw
      case rel => exact ⟨k + 1, hlt, rt_next hlt (Nat.le_trans hL (by decide)), hbT, rightL_step HX.out HRL.out HPV.out HCV.out (fun _ => ⟨HM.out, HV.out, HG.out⟩)⟩
      case measure => exact rt_measure hlt (Nat.le_trans hL (by decide))
end Go.Proofs.Ytldmhfpgcflplaa

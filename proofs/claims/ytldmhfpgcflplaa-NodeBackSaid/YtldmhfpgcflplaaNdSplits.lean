/-
  The law on splits.
-/
import Derived.Test.YtldmhfpgcflplaaNdMade
import Derived.Test.YtldmhfpgcflplaaNdSame
set_option linter.unusedVariables false
set_option linter.unusedSimpArgs false
namespace Go.Proofs.Ytldmhfpgcflplaa
open Go Go.RowKit Go.Proofs.Ytldmhfpgcflplaa.PA Go.Proofs.YtldmhfpgcflplaaW.PrintWords NdP

theorem mdP_small (x : Rw) : Small (mdP x).es := mdL_small x (cutN_le' _ _)
theorem mdP_len (x : Rw) : (mdP x).es.length ≤ 60 := Nat.le_trans (mdL_len x _) (cutN_le' _ _)
theorem mdP_high (x : Rw) : (mdP x).high.size ≤ 80 := cutB80_size _
abbrev page6 (p : Pg) (s : Value) : Array Value := #[.int .i64 p.lsn, .int .i64 p.kind, .int .i64 p.level, .int .i64 p.right, .string p.high, s]

/-- What both splits answer is one. -/
def SpC (p : Pg) (right : Int) (a b : Pg) (n : Int) : Prop :=
  ((right < 1 ∨ 65535 < right) ∧ a = zero ∧ b = zero ∧ n = 1) ∨ (1 ≤ right ∧ right ≤ 65535 ∧ p.es.length < 2 ∧ a = zero ∧ b = zero ∧ n = 17) ∨
     (1 ≤ right ∧ right ≤ 65535 ∧ 2 ≤ p.es.length ∧ n = 0 ∧ ∃ i e, IsCut p.es i ∧ p.es[i]? = some e ∧ a = cutA p i right e.k ∧ b = cutB p i)
theorem split_same {p : Pg} {right : Int} {a b a' b' : Pg} {n n' : Int} (h : SpC p right a b n) (k : SpC p right a' b' n') : a' = a ∧ b' = b ∧ n' = n := by
  rcases h with ⟨h0, rfl, rfl, rfl⟩ | ⟨h0, h1, h2, rfl, rfl, rfl⟩ | ⟨h0, h1, h2, rfl, i, e, hi, he, rfl, rfl⟩ <;> rcases k with ⟨k0, rfl, rfl, rfl⟩ | ⟨k0, k1, k2, rfl, rfl, rfl⟩ | ⟨k0, k1, k2, rfl, j, f, hj, hf, rfl, rfl⟩ <;> first | exact ⟨rfl, rfl, rfl⟩ | (exfalso; omega) | skip
  obtain rfl := isCut_unique hi hj
  rw [he] at hf
  injection hf with hf
  subst hf
  exact ⟨rfl, rfl, rfl⟩
theorem spc_lenA {p : Pg} {right : Int} {a b : Pg} {n : Int} (hl : p.es.length ≤ 60) (h : SpC p right a b n) : a.es.length ≤ 1000 := by
  rcases h with ⟨h0, rfl, rfl, rfl⟩ | ⟨h0, h1, h2, rfl, rfl, rfl⟩ | ⟨h0, h1, h2, rfl, i, e, hi, he, rfl, rfl⟩
  · exact Nat.zero_le _
  · exact Nat.zero_le _
  · have : (cutA p i right e.k).es = p.es.take i := rfl
    rw [this, List.length_take]
    omega
theorem spc_lenB {p : Pg} {right : Int} {a b : Pg} {n : Int} (hl : p.es.length ≤ 60) (h : SpC p right a b n) : b.es.length ≤ 1000 := by
  rcases h with ⟨h0, rfl, rfl, rfl⟩ | ⟨h0, h1, h2, rfl, rfl, rfl⟩ | ⟨h0, h1, h2, rfl, i, e, hi, he, rfl, rfl⟩
  · exact Nat.zero_le _
  · exact Nat.zero_le _
  · have : (cutB p i).es = p.es.drop i := rfl
    rw [this, List.length_drop]
    omega
/-- What the halves are, when there are two. -/
theorem spc_ok {p : Pg} {right : Int} {a b : Pg} {n : Int} (hs : Small p.es) (hh : p.high.size ≤ 80) (hr : RightP p) (h : SpC p right a b n) (hn : n = 0) :
    RightP a ∧ RightP b ∧ Small a.es ∧ Small b.es ∧ a.high.size ≤ 1000 ∧ a.es.length + b.es.length = p.es.length ∧ free p - 64 ≤ free a ∧ ∃ y, b.es[0]? = some y ∧ 0 < b.es.length ∧ covers a y.k = false := by
  rcases h with ⟨h0, rfl, rfl, rfl⟩ | ⟨h0, h1, h2, rfl, rfl, rfl⟩ | ⟨h0, h1, h2, rfl, i, e, hi, he, rfl, rfl⟩
  · omega
  · omega
  · have hp := isCut_pos h2 hi
    have hlt := isCut_lt h2 hi
    have hme := List.mem_of_getElem? he
    have hk := cut_right (right := right) h2 hi he hr
    have ha : (cutA p i right e.k).es = p.es.take i := rfl
    have hb : (cutB p i).es = p.es.drop i := rfl
    have hd := sizes_drop_succ he
    have hz := sizes_take_drop p.es i
    refine ⟨hk.1, hk.2, ?_, ?_, ?_, ?_, ?_, e, ?_, ?_, ?_⟩
    · rw [ha]; exact sm_take hs i
    · rw [hb]; exact ⟨by rw [List.length_drop]; have := hs.1; omega, fun x hx => hs.2 x (List.mem_of_mem_drop hx)⟩
    · exact (hs.2 e hme).1
    · rw [ha, hb, List.length_take, List.length_drop]; omega
    · unfold free
      rw [ha]
      have h3 : (cutA p i right e.k).high = e.k := rfl
      have h4 : size e = 3 + e.k.size + e.v.size := rfl
      rw [h3]
      omega
    · rw [hb, List.getElem?_drop, Nat.add_zero]; exact he
    · rw [hb, List.length_drop]; omega
    · have : (cutA p i right e.k).high = e.k := rfl
      unfold covers
      rw [this, lss_irrefl, Bool.or_false, decide_eq_false_iff_not]
      intro hz
      obtain ⟨x, hx⟩ : ∃ x, p.es[i - 1]? = some x := ⟨p.es[i - 1]'(by omega), List.getElem?_eq_getElem (by omega)⟩
      have hls := List.pairwise_iff_getElem.1 hr.2.2.1 (i - 1) i (by omega) (by omega) (by omega)
      rw [List.getElem?_eq_getElem (by omega)] at hx he
      injection hx with hx
      injection he with he
      rw [hx, he] at hls
      unfold lss at hls
      rw [hz] at hls
      cases hc : x.k.toList <;> rw [hc] at hls <;> simp [Op.bytesLess] at hls
set_option maxRecDepth 100000 in
set_option maxHeartbeats 3200000 in
theorem splits_c (w : World) (x : Rw) (A : Option Addr) (c : Nat) (hm : x.es.length ≤ 9223372036854775807) (hr : RdN w (.slice A x.es.length c) x.es) (n : Int) : Calls Try.prog 3 #[rwV x (.slice A x.es.length c), .int .i64 n] w fun r w' => r = .returned (.bool true) ∧ Below w.heap.size w w' := by
  have HR := Lib.hid hr
  clear hr
  unfold rwV
  go_enter Try.func3, Try.ntmps3
  go_wp2_with fail
  refine (speaks_c _).mono ?_
  rintro _ w1 ⟨rfl, hb1⟩
  have hb0 := (Below.refl w.heap.size w).alloc (Nat.le_refl _) (.cells #[.int .i64 x.level, .int .i64 x.right, .string x.high, .slice A x.es.length c, .bool x.tidy] 24)
  have X0 := (bx_new w #[.int .i64 x.level, .int .i64 x.right, .string x.high, .slice A x.es.length c, .bool x.tidy] 24).below hb1 (by simp)
  have HB1 := Lib.hid (hb0.trans (hb1.mono hb0.size))
  obtain ⟨z0, z1, z2, z3, z4⟩ := five X0
  clear hb0 hb1
  go_wp2_with fail
  refine (made_c w1 x A c hm (HR.out.below HB1.out)).mono ?_
  rintro _ w2 ⟨va, vb, rfl, rN, rQ, hb2⟩
  have hsm := mdP_small x
  have hlen := mdP_len x
  have hhi := mdP_high x
  generalize mdP x = P at *
  have HSM := Lib.hid hsm
  have HLEN := Lib.hid hlen
  have HHI := Lib.hid hhi
  have RN := Lib.hid rN
  have RQ := Lib.hid rQ
  obtain ⟨Aa, ca, rfl, hca, _⟩ := rN
  obtain ⟨Ab, cb, rfl, hcb, _⟩ := rQ
  have HB2 := Lib.hid (HB1.out.trans (hb2.mono HB1.out.size))
  clear hsm hlen hhi hb2 HB1 z0 z1 z2 z3 z4 X0 HR
  unfold pgV
  go_wp2_with fail
  have hal := ((Below.refl w2.heap.size w2).alloc (Nat.le_refl _) (.cells (page6 P (.slice Aa P.es.length ca)) 28)).alloc (by simp) (.cells (page6 P (.slice Ab P.es.length cb)) 31)
  have X5 := bx_old (bx_new w2 (page6 P (.slice Aa P.es.length ca)) 28) (.cells (page6 P (.slice Ab P.es.length cb)) 31)
  have X6 : Bx ((w2.alloc (.cells (page6 P (.slice Aa P.es.length ca)) 28)).alloc (.cells (page6 P (.slice Ab P.es.length cb)) 31)) (w2.heap.size + 1) _ _ := bx_at (bx_new _ (page6 P (.slice Ab P.es.length cb)) 31) (by simp)
  generalize World.alloc (World.alloc w2 _) _ = w3 at hal X5 X6 ⊢
  have RN3 := Lib.hid (RN.out.below hal)
  have RQ3 := Lib.hid (RQ.out.below hal)
  have HB3 := Lib.hid (HB2.out.trans (hal.mono HB2.out.size))
  clear hal RN RQ HB2
  refine (rright_c P w3 HSM.out RQ3.out).mono ?_
  rintro _ w4 ⟨r, rfl, hrp, hb4⟩
  cases r
  · go_wp2_with fail
    go_ret
    exact ⟨rfl, HB3.out.trans (hb4.mono HB3.out.size)⟩
  have HRP : Hid (RightP P) := hrp.1 rfl
  have X5b := X5.below hb4 X5.lt
  have X6b := X6.below hb4 X6.lt
  have RN4 := Lib.hid (RN3.out.below hb4)
  have RQ4 := Lib.hid (RQ3.out.below hb4)
  have HB4 := Lib.hid (HB3.out.trans (hb4.mono HB3.out.size))
  clear hrp hb4 X5 X6 RN3 RQ3 HB3
  obtain ⟨c0, c1, c2, c3, c4, c5⟩ := X5b.six
  obtain ⟨d0, d1, d2, d3, d4, d5⟩ := X6b.six
  go_wp2_with fail
  refine (split_c P n w4 HSM.out RN4.out).mono ?_
  rintro _ w5 ⟨a1, b1, va1, vb1, n1, rfl, ra1, rb1, hb5, hc1⟩
  have HC1 := Lib.hid hc1
  have X5c := X5b.below hb5 X5b.lt
  have X6c := X6b.below hb5 X6b.lt
  have RN5 := Lib.hid (RN4.out.below hb5)
  have RQ5 := Lib.hid (RQ4.out.below hb5)
  have HB5 := Lib.hid (HB4.out.trans (hb5.mono HB4.out.size))
  have RA1 := Lib.hid ra1
  have RB1 := Lib.hid rb1
  obtain ⟨A1, c1', rfl, _⟩ := ra1
  obtain ⟨A2, c2', rfl, _⟩ := rb1
  clear hc1 hb5 c0 c1 c2 c3 c4 c5 d0 d1 d2 d3 d4 d5 X5b X6b RN4 RQ4 HB4
  obtain ⟨c0, c1, c2, c3, c4, c5⟩ := X5c.six
  obtain ⟨d0, d1, d2, d3, d4, d5⟩ := X6c.six
  have hl5 : w2.heap.size < w5.heap.size := X5c.lt
  have hl6 : w2.heap.size + 1 < w5.heap.size := X6c.lt
  unfold pgV
  go_wp2_with fail
  have hal := ((Below.refl w5.heap.size w5).alloc (Nat.le_refl _) (.cells (page6 a1 (.slice A1 a1.es.length c1')) 28)).alloc (by simp) (.cells (page6 b1 (.slice A2 b1.es.length c2')) 28)
  have X7 := bx_old (bx_new w5 (page6 a1 (.slice A1 a1.es.length c1')) 28) (.cells (page6 b1 (.slice A2 b1.es.length c2')) 28)
  have X8 : Bx ((w5.alloc (.cells (page6 a1 (.slice A1 a1.es.length c1')) 28)).alloc (.cells (page6 b1 (.slice A2 b1.es.length c2')) 28)) (w5.heap.size + 1) _ _ := bx_at (bx_new _ (page6 b1 (.slice A2 b1.es.length c2')) 28) (by simp)
  generalize World.alloc (World.alloc w5 _) _ = w6 at hal X7 X8 ⊢
  have X5d := X5c.below hal hl5
  have X6d := X6c.below hal hl6
  have RN6 := Lib.hid (RN5.out.below hal)
  have RQ6 := Lib.hid (RQ5.out.below hal)
  have RA6 := Lib.hid (RA1.out.below hal)
  have RB6 := Lib.hid (RB1.out.below hal)
  have HB6 := Lib.hid (HB5.out.trans (hal.mono HB5.out.size))
  clear hal RN5 RQ5 RA1 RB1 HB5 c0 c1 c2 c3 c4 c5 d0 d1 d2 d3 d4 d5 X5c X6c hl5 hl6
  refine (rsplit_c P n w6 HSM.out RQ6.out).mono ?_
  rintro _ w7 ⟨a2, b2, va2, vb2, n2, rfl, ra2, rb2, hb7, hc2⟩
  have hsame := split_same HC1.out hc2
  obtain ⟨rfl, rfl, rfl⟩ := hsame
  clear hc2
  have X5e := X5d.below hb7 X5d.lt
  have X6e := X6d.below hb7 X6d.lt
  have X7e := X7.below hb7 X7.lt
  have X8e := X8.below hb7 X8.lt
  have RN7 := Lib.hid (RN6.out.below hb7)
  have RQ7 := Lib.hid (RQ6.out.below hb7)
  have RA7 := Lib.hid (RA6.out.below hb7)
  have RB7 := Lib.hid (RB6.out.below hb7)
  have QA7 := Lib.hid ra2
  have QB7 := Lib.hid rb2
  have HB7 := Lib.hid (HB6.out.trans (hb7.mono HB6.out.size))
  obtain ⟨A3, c3', rfl, _⟩ := ra2
  obtain ⟨A4, c4', rfl, _⟩ := rb2
  have hl5 : w2.heap.size < w7.heap.size := X5e.lt
  have hl6 : w2.heap.size + 1 < w7.heap.size := X6e.lt
  have hl7 : w5.heap.size < w7.heap.size := X7e.lt
  have hl8 : w5.heap.size + 1 < w7.heap.size := X8e.lt
  clear hb7 X5d X6d X7 X8 RN6 RQ6 RA6 RB6 HB6
  obtain ⟨c0, c1, c2, c3, c4, c5⟩ := X7e.six
  unfold pgV
  go_wp2_with fail
  have hal := ((Below.refl w7.heap.size w7).alloc (Nat.le_refl _) (.cells (page6 a2 (.slice A3 a2.es.length c3')) 31)).alloc (by simp) (.cells (page6 b2 (.slice A4 b2.es.length c4')) 31)
  have X10 := bx_old (bx_new w7 (page6 a2 (.slice A3 a2.es.length c3')) 31) (.cells (page6 b2 (.slice A4 b2.es.length c4')) 31)
  have X11 : Bx ((w7.alloc (.cells (page6 a2 (.slice A3 a2.es.length c3')) 31)).alloc (.cells (page6 b2 (.slice A4 b2.es.length c4')) 31)) (w7.heap.size + 1) _ _ := bx_at (bx_new _ (page6 b2 (.slice A4 b2.es.length c4')) 31) (by simp)
  generalize World.alloc (World.alloc w7 _) _ = w8 at hal X10 X11 ⊢
  have X5 := X5e.below hal hl5
  have X6 := X6e.below hal hl6
  have X7 := X7e.below hal hl7
  have X8 := X8e.below hal hl8
  have RN := Lib.hid (RN7.out.below hal)
  have RQ := Lib.hid (RQ7.out.below hal)
  have RA := Lib.hid (RA7.out.below hal)
  have RB := Lib.hid (RB7.out.below hal)
  have QA := Lib.hid (QA7.out.below hal)
  have QB := Lib.hid (QB7.out.below hal)
  have HB := Lib.hid (HB7.out.trans (hal.mono HB7.out.size))
  clear hal X5e X6e X7e X8e RN7 RQ7 RA7 RB7 QA7 QB7 HB7 hl5 hl6 hl7 hl8
  clear c0 c1 c2 c3 c4 c5
  have hla : a2.es.length ≤ 1000 := spc_lenA HLEN.out HC1.out
  have hlb : b2.es.length ≤ 1000 := spc_lenB HLEN.out HC1.out
  obtain ⟨c0, c1, c2, c3, c4, c5⟩ := X8.six
  obtain ⟨d0, d1, d2, d3, d4, d5⟩ := X11.six
  refine (same_c a2 w8 hla RA.out QA.out).mono ?_
  rintro _ u1 ⟨rfl, hu1⟩
  clear QA
  have QA := True.intro
  have X5a := X5.below hu1 X5.lt
  have X6a := X6.below hu1 X6.lt
  have X7a := X7.below hu1 X7.lt
  have X8a := X8.below hu1 X8.lt
  have X10a := X10.below hu1 X10.lt
  have X11a := X11.below hu1 X11.lt
  have RNa := Lib.hid (RN.out.below hu1)
  have RQa := Lib.hid (RQ.out.below hu1)
  have RAa := Lib.hid (RA.out.below hu1)
  have RBa := Lib.hid (RB.out.below hu1)
  have QBa := Lib.hid (QB.out.below hu1)
  have HBa := Lib.hid (HB.out.trans (hu1.mono HB.out.size))
  clear hu1 X5 X6 X7 X8 X10 X11 RN RQ RA RB QB HB c0 c1 c2 c3 c4 c5 d0 d1 d2 d3 d4 d5
  obtain ⟨c0, c1, c2, c3, c4, c5⟩ := X8a.six
  obtain ⟨d0, d1, d2, d3, d4, d5⟩ := X11a.six
  go_wp2_with fail
  refine (same_c b2 _ hlb RBa.out QBa.out).mono ?_
  rintro _ u2 ⟨rfl, hu2⟩
  have X5b := X5a.below hu2 X5a.lt
  have X6b := X6a.below hu2 X6a.lt
  have X7b := X7a.below hu2 X7a.lt
  have X8b := X8a.below hu2 X8a.lt
  have X10b := X10a.below hu2 X10a.lt
  have X11b := X11a.below hu2 X11a.lt
  have RNb := Lib.hid (RNa.out.below hu2)
  have RQb := Lib.hid (RQa.out.below hu2)
  have RAb := Lib.hid (RAa.out.below hu2)
  have RBb := Lib.hid (RBa.out.below hu2)
  have QBb := Lib.hid (QBa.out.below hu2)
  have HBb := Lib.hid (HBa.out.trans (hu2.mono HBa.out.size))
  clear hu2 X5a X6a X7a X8a X10a X11a RNa RQa RAa RBa QBa HBa c0 c1 c2 c3 c4 c5 d0 d1 d2 d3 d4 d5
  obtain ⟨c0, c1, c2, c3, c4, c5⟩ := X5b.six
  obtain ⟨d0, d1, d2, d3, d4, d5⟩ := X6b.six
  go_wp2_with fail
  refine (same_c P _ (by have := HLEN.out; omega) RNb.out RQb.out).mono ?_
  rintro _ u3 ⟨rfl, hu3⟩
  have X5c := X5b.below hu3 X5b.lt
  have X6c := X6b.below hu3 X6b.lt
  have X7c := X7b.below hu3 X7b.lt
  have X8c := X8b.below hu3 X8b.lt
  have X10c := X10b.below hu3 X10b.lt
  have X11c := X11b.below hu3 X11b.lt
  have RNc := Lib.hid (RNb.out.below hu3)
  have RQc := Lib.hid (RQb.out.below hu3)
  have RAc := Lib.hid (RAb.out.below hu3)
  have RBc := Lib.hid (RBb.out.below hu3)
  have QBc := Lib.hid (QBb.out.below hu3)
  have HBc := Lib.hid (HBb.out.trans (hu3.mono HBb.out.size))
  clear hu3 X5b X6b X7b X8b X10b X11b RNb RQb RAb RBb QBb HBb c0 c1 c2 c3 c4 c5 d0 d1 d2 d3 d4 d5
  rcases Decidable.em (n2 = 0) with hn | hn
  · have hin1 : decide (n2 = 0) = true := by simp [hn]
    obtain ⟨fa, fb, fsa, fsb, fha, flen, ffr, y, fy, flt, fcv⟩ := spc_ok HSM.out HHI.out HRP.out HC1.out hn
    obtain ⟨ad, hA, r0, _, _⟩ := at_T44 (kC_of_rd RBc.out) 0 (by omega) (by rw [List.length_map]; omega)
    have hrd : rd_T44 (b2.es.map c44) 0 = c44 y := rd44 (i := 0) fy
    rw [hrd] at r0
    subst hA
    change u3.cell? ad = some (Value.string y.k) at r0
    go_wp2_with fail
    have X5d := X5c.drew
    have X7d := X7c.drew
    have X8d := X8c.drew
    have hadd : IntKind.i64.wrap ((a2.es.length : Int) + (b2.es.length : Int)) = (P.es.length : Int) := by rw [IntKind.wrap_i64]; have := HLEN.out; omega
    refine wp_region_quiet (C := fun w' => Below u3.drew.heap.size u3.drew w') (by kernel_rfl) (by kernel_rfl) (Below.refl u3.drew.heap.size u3.drew) ?_
    simp only [List.toList_toArray]
    repeat (first
      | go_big_quiet_skip
      | (go_big_quiet_want
         refine quiet_of (v := ?_) (fun wv hwv => ?_) ?_
         rotate_left
         · obtain ⟨c0, c1, c2, c3, c4, c5⟩ := (X7d.below hwv X7d.lt).six
           obtain ⟨d0, d1, d2, d3, d4, d5⟩ := (X8d.below hwv X8d.lt).six
           obtain ⟨g0, g1, g2, g3, g4, g5⟩ := (X5d.below hwv X5d.lt).six
           have r0' := old hwv r0
           go_simp
           first | done | exact ⟨rfl, rfl⟩ | rfl | (first | (have hc := right_t a2 _ fsa ((RAc.out.below (Below.refl _ _).drew).below hwv) fa; unfold pgV at hc; (with_reducible refine hc.mono ?_); rintro _ _ ⟨rfl, hb⟩; (refine ⟨?_, hwv.trans (hb.mono hwv.size)⟩; rfl)) | (have hc := right_t b2 _ fsb ((RBc.out.below (Below.refl _ _).drew).below hwv) fb; unfold pgV at hc; (with_reducible refine hc.mono ?_); rintro _ _ ⟨rfl, hb⟩; (refine ⟨?_, hwv.trans (hb.mono hwv.size)⟩; rfl)) | (have hc := covers_c (p := a2) (key := y.k) ((RAc.out.below (Below.refl _ _).drew).below hwv); rw [fcv] at hc; unfold pgV at hc; (with_reducible refine hc.mono ?_); rintro _ _ ⟨rfl, hb⟩; (refine ⟨?_, hwv.trans (hb.mono hwv.size)⟩; rfl)) | (have hc := free_c (p := P) HSM.out (by have := HHI.out; omega) ((RNc.out.below (Below.refl _ _).drew).below hwv); unfold pgV at hc; (with_reducible refine hc.mono ?_); rintro _ _ ⟨rfl, hb⟩; (refine ⟨?_, hwv.trans (hb.mono hwv.size)⟩; rfl)) | (have hc := free_c (p := a2) fsa fha ((RAc.out.below (Below.refl _ _).drew).below hwv); unfold pgV at hc; (with_reducible refine hc.mono ?_); rintro _ _ ⟨rfl, hb⟩; (refine ⟨?_, hwv.trans (hb.mono hwv.size)⟩; rfl)))
         (try simp only [Act.put, List.setIfInBounds_toArray, List.set_cons_zero, List.set_cons_succ])
         go_big_quiet_on))
    refine wpQuiet_nil ?_
    intro w9 hw9
    have hz : decide (IntKind.i64.wrap (free P - 64) ≤ free a2) = true := by
      have h1 := small_sizes HSM.out.2
      have h2 := HSM.out.1
      have h3 := HHI.out
      rw [IntKind.wrap_i64, decide_eq_true_iff]
      unfold free at ffr ⊢
      omega
    go_wp2_with fail
    go_ret
    refine ⟨by rw [hz]; rfl, ?_⟩
    exact HBc.out.trans (((Below.refl u3.heap.size u3).drew.trans hw9).mono HBc.out.size)
  · have hin1 : decide (n2 = 0) = false := by simp [hn]
    go_wp2_with fail
    go_ret
    exact ⟨rfl, HBc.out⟩
end Go.Proofs.Ytldmhfpgcflplaa

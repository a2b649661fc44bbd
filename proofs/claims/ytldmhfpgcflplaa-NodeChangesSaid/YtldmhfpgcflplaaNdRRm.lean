/-
  The reference's Remove.
-/
import Derived.Test.YtldmhfpgcflplaaNdRMk
import Derived.Test.YtldmhfpgcflplaaNdRem
set_option linter.unusedVariables false
set_option linter.unusedSimpArgs false
namespace Go.Proofs.Ytldmhfpgcflplaa
open Go Go.RowKit Go.Proofs.Ytldmhfpgcflplaa.PA Go.Proofs.YtldmhfpgcflplaaW.PrintWords NdP

theorem step_append_rows_Q {ops : Array Oper} {o : Oper} {a : Act} {Q : Exit → Act → World → Prop} {K : Act → World → Prop} {w0 W : World} (hw : Region.wanted o (yielded ops a.tmps) = true) (s x : Operand)
    (ho : o.op = .call { callee := .builtin .append, args := #[s, x], argTypes := #[29, 29] }) {v : Value} {A : Option Addr} {l m : List Ent} {n c : Nat} (hn : n = m.length) (hs : a.eval s = v) (hx : a.eval x = .slice A n c) (hO : OwQ W w0.heap.size v l)
    (hl : l.length + m.length ≤ 100000) (hC : Kd.C k56 W A (m.map c56).length (m.map c56)) (hB : Below w0.heap.size w0 W) (h : ∀ v1 w1, OwQ w1 w0.heap.size v1 (l ++ m) → Below w0.heap.size w0 w1 → K (a.put o.dst v1) w1) :
    if Region.wanted o (yielded ops a.tmps) = true then Oper.wp Try.prog o a W K Q else K (a.put o.dst undef) W := by
  subst hn
  rw [List.length_map] at hC
  refine Kd.R_append_rows_step k56 (w0 := w0) w0.heap.size hw s x 29 56 _ 40 ho Try.underlying29 info56 rfl (by decide) (by omega) v (l.map c56) (m.map c56) A m.length c (fun _ => True) (fun _ => False) hs hx hO hC (fun x cs h => K56_M _ _ _ h) (fun _ h => h.elim) (fun _ _ => trivial) hB hB.size (by rw [List.length_map]; omega) ?_
  intro v1 w1 h1 h2 _ _
  exact h v1 w1 (by unfold OwQ; rw [List.map_append]; exact h1) h2
set_option maxRecDepth 100000 in
set_option maxHeartbeats 1600000 in
theorem rremove_c (p : Pg) (key : ByteArray) {s : Value} (w : World) (hl : p.es.length ≤ 1000) (hr : RdQ w s p.es) : Calls Try.prog 23 #[pgV p s, .string key] w (PgPostQ w (NdP.rem p key)) := by
  have HR := Lib.hid hr
  obtain ⟨A, c, rfl, hc, hm, hC⟩ := hr
  have HC := Lib.hid hC
  clear hC hm
  unfold pgV
  go_enter Try.func23, Try.ntmps23
  go_wp2_with fail
  refine (place_c (p := p) (key := key) hl HR.out.alloc2).mono ?_
  rintro _ w1 ⟨rfl, hb1⟩
  have F1 := (Fr2.start w _ _ _ _).below hb1
  obtain ⟨c0, c1, c2, c3, c4, c5⟩ := F1.b0.six
  obtain ⟨r0, r1, r2, r3, r4, r5⟩ := F1.b1.six
  obtain ⟨f0, f1, f2, f3, f4, f5⟩ := F1.b1.six_free
  cases hth : there p.es key
  · have HI : Hid (NdP.rem p key = (zero, 11)) := by unfold Hid NdP.rem; rw [if_pos hth]
    clear hth
    go_wp2_with fail
    generalize hW : World.setCell _ _ _ = W
    have hbl := bel_set6 F1.bel (by omega) hW
    obtain ⟨x0, x1, x2, x3, x4, x5⟩ := (F1.b1.set6 hW).six
    refine bodyPost_ret (v := .tuple #[.agg #[.int .i64 0, .int .i64 0, .int .i64 0, .int .i64 0, .string ⟨#[]⟩, .slice none 0 0], .int .i64 11]) (by simp [results, Try.results23, go_sem, x0, x1, x2, x3, x4, x5]) rfl ?_
    rw [HI.out]
    exact PgPostQ.zero _ hbl
  obtain ⟨e, he, hek⟩ := there_lt hth
  have HI : Hid (NdP.rem p key = ({ p with es := p.es.eraseIdx (place p.es key) }, 0)) := by
    unfold Hid NdP.rem
    rw [if_neg (by rw [hth]; simp)]
  generalize hn : place p.es key = n at *
  have hnl : n < p.es.length := by
    rcases Nat.lt_or_ge n p.es.length with h' | h'
    · exact h'
    · rw [List.getElem?_eq_none h'] at he; cases he
  clear he hth hek hn
  obtain ⟨m, hm⟩ : ∃ m, m = n + 1 := ⟨_, rfl⟩
  have HM := Lib.hid hm
  have hn0 : (0 : Int) ≤ (n : Int) := by omega
  have hn2 : (n : Int) ≤ (c : Int) := by omega
  have hm0 : (0 : Int) ≤ (m : Int) := by omega
  have hm1 : (m : Int) ≤ (p.es.length : Int) := by omega
  have hw : IntKind.i64.wrap ((n : Int) + 1) = (m : Int) := by rw [IntKind.wrap_i64]; omega
  have HCt := Lib.hid (C_take56 n (by omega) (Kd.C_below HC.out F1.bel))
  have hcd := C_drop56 m (by omega) hc (Kd.C_below HC.out F1.bel)
  have HL1 : Hid ((p.es.take n).length = n) := by unfold Hid; rw [List.length_take]; omega
  have HNL := Lib.hid hnl
  have HL := Lib.hid hl
  clear hm hl
  by_cases hcn : c = m
  · have HCd := Lib.hid (show Kd.C k56 w1 A ((p.es.drop m).map c56).length ((p.es.drop m).map c56) by rwa [if_pos hcn] at hcd)
    clear hcd
    have HLN : Hid (p.es.length = m) := by unfold Hid; have := HM.out; omega
    obtain rfl : m = c := hcn.symm
    go_wp2_with (first
      | (at_builtin; refine Kd.R_append_rows k56 (w0 := w1) (W := w1) w1.heap.size rfl (.tmp 18) (.tmp 22) 29 56 _ 40 rfl Try.underlying29 info56 rfl (by decide) (by omega) (.slice none 0 0) [] ((p.es.take n).map c56) A n _ (fun _ => True) (fun _ => False) rfl rfl (Kd.R_nil _ _ _ _ _) (by have := HCt.out; rw [List.length_map, HL1.out] at this; exact this) (fun x cs h => K56_M _ _ _ h) (fun _ h => h.elim) (fun _ _ => trivial) (Below.refl _ _) (Nat.le_refl _) (by have := HL.out; simp; omega) ?_; intro v2 w2 hO2 hb2 hg2 ha2; rw [List.nil_append] at hO2; clear hg2 ha2; have F2 := F1.below hb2; obtain ⟨c0', c1', c2', c3', c4', c5'⟩ := F2.b0.six)
      | fail)
    have hO2 : OwQ w2 w1.heap.size v2 (p.es.take n) := hO2
    have F2d := F2.drew
    have hO2d : OwQ w2.drew w1.heap.size v2 (p.es.take n) := Kd.R_below hO2 (Below.refl _ _).drew
    have hb2d := hb2.drew
    have hCd := Kd.C_below (Kd.C_below HCd.out hb2) (Below.refl w2.heap.size w2).drew
    obtain ⟨L, hL⟩ : ∃ L, L = p.es.take n ++ p.es.drop m := ⟨_, rfl⟩
    have HLL := Lib.hid hL
    clear hL
    go_region_held3 (fun w' => w'.cell? ⟨w.heap.size, 0, none⟩ = some (.int .i64 p.lsn) ∧ w'.cell? ⟨w.heap.size, 1, none⟩ = some (.int .i64 p.kind) ∧ w'.cell? ⟨w.heap.size, 2, none⟩ = some (.int .i64 p.level) ∧ w'.cell? ⟨w.heap.size, 3, none⟩ = some (.int .i64 p.right) ∧ w'.cell? ⟨w.heap.size, 4, none⟩ = some (.string p.high) ∧ w'.cell? ⟨w.heap.size, 5, none⟩ = some (.slice A p.es.length m))
      (first | with_reducible exact six_of F4.b0 | with_reducible exact six_of F3.b0 | with_reducible exact six_of F2d.b0 | exact six_of (K4 _ _ _ _ _ _))
      (first
        | (refine step_append_rows_Q (w0 := w1) (W := w2.drew) (by rfl) (.tmp 25) (.tmp 30) rfl (m := p.es.drop m) (by rw [List.length_drop]; try (have := HLN.out; omega)) rfl rfl hO2d (by rw [HL1.out, List.length_drop]; have := HL.out; omega) hCd hb2d ?_; intro v3 w3 hO3 hb3; rw [← HLL.out] at hO3; have F3 := F1.below hb3; obtain ⟨A3, c3, hv3, hc3⟩ := OwQ.rd hO3; subst hv3)
        | (go_at_call 30; refine (rwith_c p w3 (HR.out.below F3.bel) (OwQ.rd hO3)).mono ?_; rintro _ w4 ⟨rfl, hb4⟩; have F4 := F3.below hb4; have K4 := Bx.keep6 F4.b0 (b' := w.heap.size + 1) (by omega); unfold pgV; obtain ⟨f0, f1, f2, f3, f4, f5⟩ := F4.b1.six_free; obtain ⟨r0, r1, r2, r3, r4, r5⟩ := F4.b1.six; skip))
    go_wp2_with fail
    generalize hW : World.setCell _ _ _ = W
    have hbl := bel_set6 F4.bel (by omega) hW
    obtain ⟨x0, x1, x2, x3, x4, x5⟩ := (F4.b1.set6 hW).six
    have hR6 := Kd.R_lower (OwQ.set6 hO3 hb4 F1.2.2.2 hW) F1.bel.size
    refine bodyPost_ret (v := .tuple #[.agg #[.int .i64 p.lsn, .int .i64 p.kind, .int .i64 p.level, .int .i64 p.right, .string p.high, .slice A3 L.length c3], .int .i64 0]) (by simp [results, Try.results23, go_sem, x0, x1, x2, x3, x4, x5]) rfl ?_
    rw [HI.out]
    refine ⟨_, rfl, ?_, hbl⟩
    show OwQ W w.heap.size _ (p.es.eraseIdx n)
    rw [List.eraseIdx_eq_take_drop_succ, ← HM.out, ← HLL.out]
    exact hR6
  · have HCd := Lib.hid (show Kd.C k56 w1 (A.map (·.add (m * 3))) ((p.es.drop m).map c56).length ((p.es.drop m).map c56) by rwa [if_neg hcn] at hcd)
    clear hcd
    have HLN : Hid True := trivial
    go_wp2_with (first
      | (at_builtin; refine Kd.R_append_rows k56 (w0 := w1) (W := w1) w1.heap.size rfl (.tmp 18) (.tmp 22) 29 56 _ 40 rfl Try.underlying29 info56 rfl (by decide) (by omega) (.slice none 0 0) [] ((p.es.take n).map c56) A n _ (fun _ => True) (fun _ => False) rfl rfl (Kd.R_nil _ _ _ _ _) (by have := HCt.out; rw [List.length_map, HL1.out] at this; exact this) (fun x cs h => K56_M _ _ _ h) (fun _ h => h.elim) (fun _ _ => trivial) (Below.refl _ _) (Nat.le_refl _) (by have := HL.out; simp; omega) ?_; intro v2 w2 hO2 hb2 hg2 ha2; rw [List.nil_append] at hO2; clear hg2 ha2; have F2 := F1.below hb2; obtain ⟨c0', c1', c2', c3', c4', c5'⟩ := F2.b0.six)
      | fail)
    have hO2 : OwQ w2 w1.heap.size v2 (p.es.take n) := hO2
    have F2d := F2.drew
    have hO2d : OwQ w2.drew w1.heap.size v2 (p.es.take n) := Kd.R_below hO2 (Below.refl _ _).drew
    have hb2d := hb2.drew
    have hCd := Kd.C_below (Kd.C_below HCd.out hb2) (Below.refl w2.heap.size w2).drew
    obtain ⟨L, hL⟩ : ∃ L, L = p.es.take n ++ p.es.drop m := ⟨_, rfl⟩
    have HLL := Lib.hid hL
    clear hL
    go_region_held3 (fun w' => w'.cell? ⟨w.heap.size, 0, none⟩ = some (.int .i64 p.lsn) ∧ w'.cell? ⟨w.heap.size, 1, none⟩ = some (.int .i64 p.kind) ∧ w'.cell? ⟨w.heap.size, 2, none⟩ = some (.int .i64 p.level) ∧ w'.cell? ⟨w.heap.size, 3, none⟩ = some (.int .i64 p.right) ∧ w'.cell? ⟨w.heap.size, 4, none⟩ = some (.string p.high) ∧ w'.cell? ⟨w.heap.size, 5, none⟩ = some (.slice A p.es.length c))
      (first | with_reducible exact six_of F4.b0 | with_reducible exact six_of F3.b0 | with_reducible exact six_of F2d.b0 | exact six_of (K4 _ _ _ _ _ _))
      (first
        | (refine step_append_rows_Q (w0 := w1) (W := w2.drew) (by rfl) (.tmp 25) (.tmp 30) rfl (m := p.es.drop m) (by rw [List.length_drop]; try (have := HLN.out; omega)) rfl rfl hO2d (by rw [HL1.out, List.length_drop]; have := HL.out; omega) hCd hb2d ?_; intro v3 w3 hO3 hb3; rw [← HLL.out] at hO3; have F3 := F1.below hb3; obtain ⟨A3, c3, hv3, hc3⟩ := OwQ.rd hO3; subst hv3)
        | (go_at_call 30; refine (rwith_c p w3 (HR.out.below F3.bel) (OwQ.rd hO3)).mono ?_; rintro _ w4 ⟨rfl, hb4⟩; have F4 := F3.below hb4; have K4 := Bx.keep6 F4.b0 (b' := w.heap.size + 1) (by omega); unfold pgV; obtain ⟨f0, f1, f2, f3, f4, f5⟩ := F4.b1.six_free; obtain ⟨r0, r1, r2, r3, r4, r5⟩ := F4.b1.six; skip))
    go_wp2_with fail
    generalize hW : World.setCell _ _ _ = W
    have hbl := bel_set6 F4.bel (by omega) hW
    obtain ⟨x0, x1, x2, x3, x4, x5⟩ := (F4.b1.set6 hW).six
    have hR6 := Kd.R_lower (OwQ.set6 hO3 hb4 F1.2.2.2 hW) F1.bel.size
    refine bodyPost_ret (v := .tuple #[.agg #[.int .i64 p.lsn, .int .i64 p.kind, .int .i64 p.level, .int .i64 p.right, .string p.high, .slice A3 L.length c3], .int .i64 0]) (by simp [results, Try.results23, go_sem, x0, x1, x2, x3, x4, x5]) rfl ?_
    rw [HI.out]
    refine ⟨_, rfl, ?_, hbl⟩
    show OwQ W w.heap.size _ (p.es.eraseIdx n)
    rw [List.eraseIdx_eq_take_drop_succ, ← HM.out, ← HLL.out]
    exact hR6
end Go.Proofs.Ytldmhfpgcflplaa

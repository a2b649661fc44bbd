/-
  node.Remove.
-/
import Derived.Test.YtldmhfpgcflplaaNdDelW
import Derived.Test.YtldmhfpgcflplaaNdMk
set_option linter.unusedVariables false
set_option linter.unusedSimpArgs false
namespace Go.Proofs.Ytldmhfpgcflplaa
open Go Go.RowKit Go.Proofs.Ytldmhfpgcflplaa.PA Go.Proofs.YtldmhfpgcflplaaW.PrintWords NdP

theorem six_of {w : World} {b t : Nat} {a0 a1 a2 a3 a4 a5 : Value} (h : Bx w b #[a0, a1, a2, a3, a4, a5] t) : w.cell? ⟨b, 0, none⟩ = some a0 ∧ w.cell? ⟨b, 1, none⟩ = some a1 ∧ w.cell? ⟨b, 2, none⟩ = some a2 ∧ w.cell? ⟨b, 3, none⟩ = some a3 ∧ w.cell? ⟨b, 4, none⟩ = some a4 ∧ w.cell? ⟨b, 5, none⟩ = some a5 := h.six
theorem Bx.keep6 {w : World} {b b' t : Nat} {cs : Array Value} (h : Bx w b cs t) (hne : ¬ b = b') (v0 v1 v2 v3 v4 v5 : Value) : Bx ((((((w.setCell ⟨b', 0, none⟩ v0).setCell ⟨b', 1, none⟩ v1).setCell ⟨b', 2, none⟩ v2).setCell ⟨b', 3, none⟩ v3).setCell ⟨b', 4, none⟩ v4).setCell ⟨b', 5, none⟩ v5) b cs t :=
  (((((h.far hne v0).far hne v1).far hne v2).far hne v3).far hne v4).far hne v5
set_option maxRecDepth 100000 in
set_option maxHeartbeats 1600000 in
theorem remove_c (p : Pg) (key : ByteArray) {s : Value} (w : World) (hS : Sorted p.es) (hl : p.es.length ≤ 1000) (hr : RdN w s p.es) : Calls Try.prog 18 #[pgV p s, .string key] w (PgPost w (NdP.rem p key)) := by
  have HR := Lib.hid hr
  obtain ⟨A, c, rfl, hc, hm, hC⟩ := hr
  clear hC hm
  unfold pgV
  go_enter Try.func18, Try.ntmps18
  go_wp2_with fail
  refine (find_c (p := p) hS hl HR.out.alloc2).mono ?_
  rintro _ w1 ⟨rfl, hb1⟩
  have F1 := (Fr2.start w _ _ _ _).below hb1
  obtain ⟨c0, c1, c2, c3, c4, c5⟩ := F1.b0.six
  obtain ⟨r0, r1, r2, r3, r4, r5⟩ := F1.b1.six
  obtain ⟨f0, f1, f2, f3, f4, f5⟩ := F1.b1.six_free
  cases hth : there p.es key
  · have HI : NdP.rem p key = (zero, 11) := by unfold NdP.rem; rw [if_pos hth]
    clear hth
    go_wp2_with fail
    generalize hW : World.setCell _ _ _ = W
    have hbl := bel_set6 F1.bel (by omega) hW
    obtain ⟨x0, x1, x2, x3, x4, x5⟩ := (F1.b1.set6 hW).six
    refine bodyPost_ret (v := .tuple #[.agg #[.int .i64 0, .int .i64 0, .int .i64 0, .int .i64 0, .string ⟨#[]⟩, .slice none 0 0], .int .i64 11]) (by simp [results, Try.results18, go_sem, x0, x1, x2, x3, x4, x5]) rfl ?_
    rw [HI]
    exact PgPost.zero _ hbl
  obtain ⟨e, he, hek⟩ := there_lt hth
  have HI : NdP.rem p key = ({ p with es := p.es.eraseIdx (place p.es key) }, 0) := by
    unfold NdP.rem
    rw [if_neg (by rw [hth]; simp)]
  generalize hn : place p.es key = n at *
  have hnl : n < p.es.length := by
    rcases Nat.lt_or_ge n p.es.length with h' | h'
    · exact h'
    · rw [List.getElem?_eq_none h'] at he; cases he
  clear he hth hek hn
  obtain ⟨m, hm⟩ : ∃ m, m = n + 1 := ⟨_, rfl⟩
  have HM := Lib.hid hm
  have hn0 : (0 : Int) ≤ (n : Int) := by omega
  have hn1 : (n : Int) < (p.es.length : Int) := by omega
  have hw : IntKind.i64.wrap ((n : Int) + 1) = (m : Int) := by rw [IntKind.wrap_i64]; omega
  have HNL := Lib.hid hnl
  have HL := Lib.hid hl
  clear hm hl
  go_wp2_with fail
  have F1d := F1.drew
  obtain ⟨L, hL⟩ : ∃ L, L = p.es.eraseIdx n := ⟨_, rfl⟩
  have HLL := Lib.hid hL
  obtain ⟨q, hq⟩ : ∃ q, q = p.es.length - 1 := ⟨_, rfl⟩
  have HQ := Lib.hid hq
  clear hL hq
  go_region_held3 (fun w' => w'.cell? ⟨w.heap.size, 0, none⟩ = some (.int .i64 p.lsn) ∧ w'.cell? ⟨w.heap.size, 1, none⟩ = some (.int .i64 p.kind) ∧ w'.cell? ⟨w.heap.size, 2, none⟩ = some (.int .i64 p.level) ∧ w'.cell? ⟨w.heap.size, 3, none⟩ = some (.int .i64 p.right) ∧ w'.cell? ⟨w.heap.size, 4, none⟩ = some (.string p.high) ∧ w'.cell? ⟨w.heap.size, 5, none⟩ = some (.slice A p.es.length c))
    (first | with_reducible exact six_of F4.b0 | with_reducible exact six_of F3.b0 | with_reducible exact six_of F2.b0 | with_reducible exact six_of F1d.b0 | exact six_of (K4 _ _ _ _ _ _))
    (first
      | (go_at_call 28; refine (clone_c HL.out (HR.out.below F1d.bel)).mono ?_; rintro _ w2 ⟨v2, rfl, hO2, hb2⟩; obtain ⟨g, cap, rfl, hg, hcap⟩ := own_form hO2 (by have := HNL.out; omega); have F2 := F1d.below hb2)
      | (go_at_call 32; refine (delete_w (k := n) (m := m) (n := p.es.length) HM (Lib.hid rfl) (by omega) (by omega) (by have := HM.out; omega) (by omega) (by have := HM.out; simp; omega) (by omega) (by have := HM.out; omega) (by omega) (by have := HM.out; omega) (by omega) (Lib.hid hO2) (Lib.hid hb2.size)).mono ?_; rintro _ w3 ⟨rfl, hO3, hb3⟩; rw [← HLL.out, ← HQ.out] at hO3; rw [← HQ.out]; have F3 := F1d.below (hb2.trans hb3))
      | (go_at_call 27; refine (with_c p w3 (HR.out.below F3.bel) hO3.rd).mono ?_; rintro _ w4 ⟨rfl, hb4⟩; have F4 := F3.below hb4; have K4 := Bx.keep6 F4.b0 (b' := w.heap.size + 1) (by omega); unfold pgV; obtain ⟨f0, f1, f2, f3, f4, f5⟩ := F4.b1.six_free; obtain ⟨r0, r1, r2, r3, r4, r5⟩ := F4.b1.six; skip))
  go_wp2_with fail
  generalize hW : World.setCell _ _ _ = W
  have hbl := bel_set6 F4.bel (by omega) hW
  obtain ⟨x0, x1, x2, x3, x4, x5⟩ := (F4.b1.set6 hW).six
  have hR6 := Kd.R_lower (hO3.set6 hb4 F1d.2.2.2 hW) F1d.bel.size
  refine bodyPost_ret (v := .tuple #[.agg #[.int .i64 p.lsn, .int .i64 p.kind, .int .i64 p.level, .int .i64 p.right, .string p.high, .slice (some ⟨g, 0, none⟩) q cap], .int .i64 0]) (by simp [results, Try.results18, go_sem, x0, x1, x2, x3, x4, x5]) rfl ?_
  rw [HI]
  refine ⟨_, rfl, ?_, hbl⟩
  show OwN W w.heap.size _ (p.es.eraseIdx n)
  rw [← HLL.out]
  exact hR6
end Go.Proofs.Ytldmhfpgcflplaa

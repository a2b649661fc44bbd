/-
  A mark set in a row of one's own.
-/
import Derived.Test.YtldmhfpgcflplaaNdSpP
set_option linter.unusedVariables false
set_option linter.unusedSimpArgs false
namespace Go.Proofs.Ytldmhfpgcflplaa
open Go Go.RowKit Go.Proofs.Ytldmhfpgcflplaa.PA Go.Proofs.YtldmhfpgcflplaaW.PrintWords NdP

theorem own_mark {W : World} {base g n cap : Nat} {l : List Ent} {i : Nat} {e : Ent} (b : Bool) (h : OwN W base (.slice (some ⟨g, 0, none⟩) n cap) l) (he : l[i]? = some e) :
    (∃ v, W.cell? ⟨g, i * 3 + 2, none⟩ = some v) ∧ W.frozen? ⟨g, i * 3 + 2, none⟩ = false ∧ OwN (W.setCell ⟨g, i * 3 + 2, none⟩ (.bool b)) base (.slice (some ⟨g, 0, none⟩) n cap) (l.set i { e with m := b }) := by
  have hi : i < l.length := by
    rcases Nat.lt_or_ge i l.length with h' | h'
    · exact h'
    · rw [List.getElem?_eq_none h'] at he; cases he
  have hn : n = (l.map c44).length := (Kd.R_reads' h).1
  have h0 : (0 : Int) ≤ (i : Int) := by omega
  have h1 : (i : Int) < (n : Int) := by rw [hn, List.length_map]; omega
  obtain ⟨c, hc, hM, hcells, hfr⟩ := Kd.R_elem h z44 (i : Int) h0 h1
  rw [Int.toNat_natCast] at hM hcells hfr
  have hx : (l.map c44).getD i z44 = c44 e := by simp [List.getD_eq_getElem?_getD, List.getElem?_map, he]
  rw [hx] at hM
  have hcc := k44_openM hM
  subst hcc
  have hs := Kd.R_seg (okp := fun k => k ≠ g) h (i : Int) h0 h1 (j := 2) (seg := [Value.bool b]) (x' := c44 { e with m := b }) hc (by rw [Int.toNat_natCast]; exact hcells) (Nat.le_refl 3) (k44_mkM _ _ _ _) (fun k hk => ⟨trivial, hk⟩)
  rw [Int.toNat_natCast] at hs
  refine ⟨⟨_, hcells 2 _ rfl⟩, hfr 2, ?_⟩
  have e1 : (l.set i { e with m := b }).map c44 = (l.map c44).set i (c44 { e with m := b }) := List.map_set
  unfold OwN
  rw [e1]
  exact hs.1
theorem own_form {W : World} {base : Nat} {v : Value} {l : List Ent} (h : OwN W base v l) (hl : 0 < l.length) : ∃ g cap, v = .slice (some ⟨g, 0, none⟩) l.length cap ∧ base ≤ g ∧ l.length ≤ cap := by
  obtain ⟨inner, ho⟩ := Kd.R_own h
  rcases ho.2 with ⟨e1, e2⟩ | ⟨g, cap, cur, e1, hb, _, hn, _⟩
  · obtain ⟨A, c, he, _⟩ := Kd.R_reads h
    rw [he, List.length_map] at e1
    injection e1 with _ h2 _
    omega
  · rw [List.length_map] at e1 hn
    exact ⟨g, cap, e1, hb, hn⟩
/-- Two boxes made by a call. -/
def Fr2 (w w1 : World) (cs0 : Array Value) (t0 : Nat) (cs1 : Array Value) (t1 : Nat) : Prop :=
  Below w.heap.size w w1 ∧ Bx w1 w.heap.size cs0 t0 ∧ Bx w1 (w.heap.size + 1) cs1 t1 ∧ w.heap.size + 1 < w1.heap.size
theorem Fr2.start (w : World) (cs0 : Array Value) (t0 : Nat) (cs1 : Array Value) (t1 : Nat) : Fr2 w ((w.alloc (.cells cs0 t0 (0, 0))).alloc (.cells cs1 t1 (0, 0))) cs0 t0 cs1 t1 := by
  refine ⟨?_, bx_old (bx_new _ _ _) _, bx_at (bx_new _ _ _) (by simp), by simp⟩
  exact ((Below.refl w.heap.size w).alloc (Nat.le_refl _) _).alloc (by simp) _
section
variable {w w1 w2 : World} {cs0 cs1 : Array Value} {t0 t1 : Nat}
theorem Fr2.below (h : Fr2 w w1 cs0 t0 cs1 t1) (hb : Below w1.heap.size w1 w2) : Fr2 w w2 cs0 t0 cs1 t1 := by
  obtain ⟨h0, h1, h2, h4⟩ := h
  exact ⟨h0.trans (hb.mono h0.size), h1.below hb h1.lt, h2.below hb h2.lt, Nat.lt_of_lt_of_le h4 hb.size⟩
theorem Fr2.drew (h : Fr2 w w1 cs0 t0 cs1 t1) : Fr2 w w1.drew cs0 t0 cs1 t1 := h.below (Below.refl _ _).drew
theorem Fr2.bel (h : Fr2 w w1 cs0 t0 cs1 t1) : Below w.heap.size w w1 := h.1
theorem Fr2.b0 (h : Fr2 w w1 cs0 t0 cs1 t1) : Bx w1 w.heap.size cs0 t0 := h.2.1
theorem Fr2.b1 (h : Fr2 w w1 cs0 t0 cs1 t1) : Bx w1 (w.heap.size + 1) cs1 t1 := h.2.2.1
end
theorem RdN.alloc2 {w : World} {s : Value} {l : List Ent} {a b : Obj} (h : RdN w s l) : RdN ((w.alloc a).alloc b) s l :=
  h.below (((Below.refl w.heap.size w).alloc (Nat.le_refl _) _).alloc (by simp) _)

set_option maxRecDepth 100000 in
set_option maxHeartbeats 1600000 in
theorem mark_c (p : Pg) (key : ByteArray) (b : Bool) {s : Value} (w : World) (hS : Sorted p.es) (hl : p.es.length ≤ 1000) (hr : RdN w s p.es) : Calls Try.prog 21 #[pgV p s, .string key, .bool b] w (PgPost w (NdP.mark p key b)) := by
  have HR := Lib.hid hr
  obtain ⟨A, c, rfl, hc, hm, hC⟩ := hr
  have HC := Lib.hid hC
  clear hC hm
  unfold pgV
  go_enter Try.func21, Try.ntmps21
  go_wp2_with fail
  refine (find_c (p := p) hS hl HR.out.alloc2).mono ?_
  rintro _ w1 ⟨rfl, hb1⟩
  have F1 := (Fr2.start w _ _ _ _).below hb1
  obtain ⟨c0, c1, c2, c3, c4, c5⟩ := F1.b0.six
  obtain ⟨r0, r1, r2, r3, r4, r5⟩ := F1.b1.six
  obtain ⟨f0, f1, f2, f3, f4, f5⟩ := F1.b1.six_free
  cases hth : there p.es key
  · have HI : NdP.mark p key b = (zero, 11) := by unfold NdP.mark; rw [if_pos hth]
    clear hth
    go_wp2_with fail
    generalize hW : World.setCell _ _ _ = W
    have hbl := bel_set6 F1.bel (by omega) hW
    obtain ⟨x0, x1, x2, x3, x4, x5⟩ := (F1.b1.set6 hW).six
    refine bodyPost_ret (v := .tuple #[.agg #[.int .i64 0, .int .i64 0, .int .i64 0, .int .i64 0, .string ⟨#[]⟩, .slice none 0 0], .int .i64 11]) (by simp [results, Try.results21, go_sem, x0, x1, x2, x3, x4, x5]) rfl ?_
    rw [HI]
    exact PgPost.zero _ hbl
  obtain ⟨e, he, hek⟩ := there_lt hth
  have HT := Lib.hid hth
  have HP := Lib.hid (place_le p.es key)
  generalize hn : place p.es key = n at *
  have hnl : n < p.es.length := by
    rcases Nat.lt_or_ge n p.es.length with h' | h'
    · exact h'
    · rw [List.getElem?_eq_none h'] at he; cases he
  have hn0 : (0 : Int) ≤ (n : Int) := by omega
  have hn1 : (n : Int) < (p.es.length : Int) := by omega
  obtain ⟨ad, hA, a0, a1, a2⟩ := at_T44 (Kd.C_below HC.out F1.bel) (n : Int) (by omega) (by rw [List.length_map]; exact hn1)
  rw [rd44 he] at a0 a1 a2
  rw [Int.toNat_natCast] at a0 a1 a2
  change w1.cell? _ = some (Value.bool e.m) at a2
  have HEE := Lib.hid he
  have HNN := Lib.hid hn
  clear he hth hek hn
  subst hA
  by_cases hmb : e.m = b
  · have hmb2 : (e.m == b) = true := by simp [hmb]
    have HI : Hid (NdP.mark p key b = (zero, 17)) := by
      unfold Hid NdP.mark
      rw [if_neg (by rw [HT.out]; simp), HNN.out, if_pos (by unfold markAt; rw [HEE.out]; exact hmb)]
    go_wp2_with fail
    generalize hW : World.setCell _ _ _ = W
    have hbl := bel_set6 F1.bel (by omega) hW
    obtain ⟨x0, x1, x2, x3, x4, x5⟩ := (F1.b1.set6 hW).six
    refine bodyPost_ret (v := .tuple #[.agg #[.int .i64 0, .int .i64 0, .int .i64 0, .int .i64 0, .string ⟨#[]⟩, .slice none 0 0], .int .i64 17]) (by simp [results, Try.results21, go_sem, x0, x1, x2, x3, x4, x5]) rfl ?_
    rw [HI.out]
    exact PgPost.zero _ hbl
  have hmb2 : (e.m == b) = false := by simp [hmb]
  have HI : Hid (NdP.mark p key b = ({ p with es := p.es.set n { e with m := b } }, 0)) := by
    unfold Hid NdP.mark
    rw [if_neg (by rw [HT.out]; simp), HNN.out, if_neg (by unfold markAt; rw [HEE.out]; exact hmb)]
    unfold setMark
    rw [HEE.out]
  have HM := Lib.hid hmb
  clear hmb
  go_wp2_with fail
  refine (clone_c hl (HR.out.below F1.bel)).mono ?_
  rintro _ w2 ⟨v2, rfl, hO2, hb2⟩
  obtain ⟨g, cap, rfl, hg, hcap⟩ := own_form hO2 (by omega)
  have F2 := F1.below hb2
  clear c0 c1 c2 c3 c4 c5 r0 r1 r2 r3 r4 r5 f0 f1 f2 f3 f4 f5
  obtain ⟨c0, c1, c2, c3, c4, c5⟩ := F2.b0.six
  obtain ⟨⟨ov, hov⟩, hfr, hO3⟩ := own_mark b hO2 HEE.out
  have hgw : w.heap.size + 1 < g := Nat.lt_of_lt_of_le F1.2.2.2 hg
  have g1 : ¬ w.heap.size = g := by omega
  have g2' : ¬ g = w.heap.size := by omega
  have g3 : ¬ w.heap.size + 1 = g := by omega
  have g4 : ¬ g = w.heap.size + 1 := by omega
  have hbS := F2.bel.setCell (p := ⟨g, n * 3 + 2, none⟩) (by show w.heap.size ≤ g; omega) (Value.bool b)
  have B0 := F2.b0.far (p := ⟨g, n * 3 + 2, none⟩) g1 (Value.bool b)
  have B1 := F2.b1.far (p := ⟨g, n * 3 + 2, none⟩) g3 (Value.bool b)
  have HL1 := Lib.hid (show (p.es.set n { e with m := b }).length = p.es.length from List.length_set)
  have hO4 := hO3.rd
  go_wp2_with fail
  refine (with_c p _ (HR.out.below hbS) hO4).mono ?_
  rintro _ w3 ⟨rfl, hb3⟩
  unfold pgV
  have B3 := B1.below hb3 B1.lt
  obtain ⟨r0, r1, r2, r3, r4, r5⟩ := B3.six
  obtain ⟨f0, f1, f2, f3, f4, f5⟩ := B3.six_free
  have hb4 := hbS.trans (hb3.mono hbS.size)
  go_wp2_with fail
  generalize hW : World.setCell _ _ _ = W
  have hbl := bel_set6 hb4 (by omega) hW
  obtain ⟨x0, x1, x2, x3, x4, x5⟩ := (B3.set6 hW).six
  have hR6 := Kd.R_lower (hO3.set6 hb3 F1.2.2.2 hW) F1.bel.size
  refine bodyPost_ret (v := .tuple #[.agg #[.int .i64 p.lsn, .int .i64 p.kind, .int .i64 p.level, .int .i64 p.right, .string p.high, .slice (some ⟨g, 0, none⟩) p.es.length cap], .int .i64 0]) (by simp [results, Try.results21, go_sem, x0, x1, x2, x3, x4, x5]) rfl ?_
  rw [HI.out]
  exact ⟨_, rfl, hR6, hbl⟩
end Go.Proofs.Ytldmhfpgcflplaa

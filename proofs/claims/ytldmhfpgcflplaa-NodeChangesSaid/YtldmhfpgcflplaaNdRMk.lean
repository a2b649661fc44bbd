/-
  The reference's Mark.
-/
import Derived.Test.YtldmhfpgcflplaaNdRIns
import Derived.Test.YtldmhfpgcflplaaNdMk
set_option linter.unusedVariables false
set_option linter.unusedSimpArgs false
namespace Go.Proofs.Ytldmhfpgcflplaa
open Go Go.RowKit Go.Proofs.Ytldmhfpgcflplaa.PA Go.Proofs.YtldmhfpgcflplaaW.PrintWords NdP

theorem RdQ.alloc2 {w : World} {s : Value} {l : List Ent} {a b : Obj} (h : RdQ w s l) : RdQ ((w.alloc a).alloc b) s l :=
  h.below (((Below.refl w.heap.size w).alloc (Nat.le_refl _) _).alloc (by simp) _)
theorem own_markQ {W : World} {base g n cap : Nat} {l : List Ent} {i : Nat} {e : Ent} (b : Bool) (h : OwQ W base (.slice (some ⟨g, 0, none⟩) n cap) l) (he : l[i]? = some e) :
    (∃ v, W.cell? ⟨g, i * 3 + 2, none⟩ = some v) ∧ W.frozen? ⟨g, i * 3 + 2, none⟩ = false ∧ OwQ (W.setCell ⟨g, i * 3 + 2, none⟩ (.bool b)) base (.slice (some ⟨g, 0, none⟩) n cap) (l.set i { e with m := b }) := by
  have hi : i < l.length := by
    rcases Nat.lt_or_ge i l.length with h' | h'
    · exact h'
    · rw [List.getElem?_eq_none h'] at he; cases he
  have hn : n = (l.map c56).length := (Kd.R_reads' h).1
  have h0 : (0 : Int) ≤ (i : Int) := by omega
  have h1 : (i : Int) < (n : Int) := by rw [hn, List.length_map]; omega
  obtain ⟨c, hc, hM, hcells, hfr⟩ := Kd.R_elem h z56 (i : Int) h0 h1
  rw [Int.toNat_natCast] at hM hcells hfr
  have hx : (l.map c56).getD i z56 = c56 e := by simp [List.getD_eq_getElem?_getD, List.getElem?_map, he]
  rw [hx] at hM
  have hcc := k56_openM hM
  subst hcc
  have hs := Kd.R_seg (okp := fun k => k ≠ g) h (i : Int) h0 h1 (j := 2) (seg := [Value.bool b]) (x' := c56 { e with m := b }) hc (by rw [Int.toNat_natCast]; exact hcells) (Nat.le_refl 3) (k56_mkM _ _ _ _) (fun k hk => ⟨trivial, hk⟩)
  rw [Int.toNat_natCast] at hs
  refine ⟨⟨_, hcells 2 _ rfl⟩, hfr 2, ?_⟩
  have e1 : (l.set i { e with m := b }).map c56 = (l.map c56).set i (c56 { e with m := b }) := List.map_set
  unfold OwQ
  rw [e1]
  exact hs.1
theorem ownQ_made (w : World) : OwQ (w.alloc (.cells #[] 56 (0, 0))) w.heap.size (.slice (some ⟨w.heap.size, 0, none⟩) 0 0) [] := by
  refine ⟨fun _ _ => trivial, [], ⟨by simp, Or.inr ⟨w.heap.size, 0, #[], rfl, Nat.le_refl _, heap_alloc_new w _, Nat.le_refl _, Nat.zero_le _, by simp, by simp⟩⟩, by simp, fun j p hj => by simp at hj⟩
set_option maxRecDepth 100000 in
set_option maxHeartbeats 1600000 in
theorem rmark_c (p : Pg) (key : ByteArray) (b : Bool) {s : Value} (w : World) (hl : p.es.length ≤ 1000) (hr : RdQ w s p.es) : Calls Try.prog 22 #[pgV p s, .string key, .bool b] w (PgPostQ w (NdP.mark p key b)) := by
  have HR := Lib.hid hr
  obtain ⟨A, c, rfl, hc, hm, hC⟩ := hr
  have HC := Lib.hid hC
  clear hC hm
  unfold pgV
  go_enter Try.func22, Try.ntmps22
  go_wp2_with fail
  refine (place_c (p := p) (key := key) hl HR.out.alloc2).mono ?_
  rintro _ w1 ⟨rfl, hb1⟩
  have F1 := (Fr2.start w _ _ _ _).below hb1
  obtain ⟨c0, c1, c2, c3, c4, c5⟩ := F1.b0.six
  obtain ⟨r0, r1, r2, r3, r4, r5⟩ := F1.b1.six
  obtain ⟨f0, f1, f2, f3, f4, f5⟩ := F1.b1.six_free
  cases hth : there p.es key
  · have HI : Hid (NdP.mark p key b = (zero, 11)) := by unfold Hid NdP.mark; rw [if_pos hth]
    clear hth
    go_wp2_with fail
    generalize hW : World.setCell _ _ _ = W
    have hbl := bel_set6 F1.bel (by omega) hW
    obtain ⟨x0, x1, x2, x3, x4, x5⟩ := (F1.b1.set6 hW).six
    refine bodyPost_ret (v := .tuple #[.agg #[.int .i64 0, .int .i64 0, .int .i64 0, .int .i64 0, .string ⟨#[]⟩, .slice none 0 0], .int .i64 11]) (by simp [results, Try.results22, go_sem, x0, x1, x2, x3, x4, x5]) rfl ?_
    rw [HI.out]
    exact PgPostQ.zero _ hbl
  obtain ⟨e, he, hek⟩ := there_lt hth
  have HT := Lib.hid hth
  have HP := Lib.hid (place_le p.es key)
  generalize hn : place p.es key = n at *
  have hnl : n < p.es.length := by
    rcases Nat.lt_or_ge n p.es.length with h' | h'
    · exact h'
    · rw [List.getElem?_eq_none h'] at he; cases he
  have hn0 : (0 : Int) ≤ (n : Int) := by omega
  have hn1 : (n : Int) < (p.es.length : Int) := by omega
  obtain ⟨ad, hA, a0, a1, a2⟩ := at_T56 (Kd.C_below HC.out F1.bel) (n : Int) (by omega) (by rw [List.length_map]; exact hn1)
  rw [rd56 he, Int.toNat_natCast] at a0 a1 a2
  change w1.cell? _ = some (Value.bool e.m) at a2
  have HEE := Lib.hid he
  have HNN := Lib.hid hn
  clear he hth hek hn
  subst hA
  by_cases hmb : e.m = b
  · have hmb2 : (e.m == b) = true := by simp [hmb]
    have HI : Hid (NdP.mark p key b = (zero, 17)) := by
      unfold Hid NdP.mark
      rw [if_neg (by rw [HT.out]; simp), HNN.out, if_pos (by unfold markAt; rw [HEE.out]; exact hmb)]
    go_wp2_with fail
    generalize hW : World.setCell _ _ _ = W
    have hbl := bel_set6 F1.bel (by omega) hW
    obtain ⟨x0, x1, x2, x3, x4, x5⟩ := (F1.b1.set6 hW).six
    refine bodyPost_ret (v := .tuple #[.agg #[.int .i64 0, .int .i64 0, .int .i64 0, .int .i64 0, .string ⟨#[]⟩, .slice none 0 0], .int .i64 17]) (by simp [results, Try.results22, go_sem, x0, x1, x2, x3, x4, x5]) rfl ?_
    rw [HI.out]
    exact PgPostQ.zero _ hbl
  have hmb2 : (e.m == b) = false := by simp [hmb]
  have HI : Hid (NdP.mark p key b = ({ p with es := p.es.set n { e with m := b } }, 0)) := by
    unfold Hid NdP.mark
    rw [if_neg (by rw [HT.out]; simp), HNN.out, if_neg (by unfold markAt; rw [HEE.out]; exact hmb)]
    unfold setMark
    rw [HEE.out]
  have HM := Lib.hid hmb
  clear hmb
  have hl0 : w.heap.size < w1.heap.size := F1.b0.lt
  have HO0 := Lib.hid (ownQ_made w1)
  have hal := (Below.refl w1.heap.size w1).alloc (Nat.le_refl _) (.cells #[] 56)
  have HAL := Lib.hid hal
  have HCa := Lib.hid (Kd.C_below (Kd.C_below HC.out F1.bel) hal)
  have F2 := F1.below hal
  clear hal
  have HL := Lib.hid hl
  go_wp2_with (first
    | (at_builtin; refine Kd.R_append_rows k56 (w0 := w1) (W := w1.alloc (.cells #[] 56)) w1.heap.size rfl (.tmp 29) (.tmp 31) 29 56 _ 40 rfl Try.underlying29 info56 rfl (by decide) (by omega) (.slice (some ⟨w1.heap.size, 0, none⟩) 0 0) [] (p.es.map c56) (some ad) p.es.length _ (fun _ => True) (fun _ => False) rfl rfl HO0.out (by have := HCa.out; rw [List.length_map] at this; exact this) (fun x cs h => K56_M _ _ _ h) (fun _ h => h.elim) (fun _ _ => trivial) HAL.out HAL.out.size (by have := HL.out; simp; omega) ?_; intro v2 w2 hO2 hb2 hg2 ha2; rw [List.nil_append] at hO2; clear hg2 ha2; have F3 := F1.below hb2; obtain ⟨g, cap, hv2, hg, hg', _⟩ := Kd.R_form hO2 (by rw [List.length_map]; omega); rw [List.length_map] at hv2; subst hv2; have F3 := F1.below hb2
       obtain ⟨⟨ov, hov⟩, hfr, hO3⟩ := own_markQ b hO2 HEE.out
       have hgw : w.heap.size + 1 < g := Nat.lt_of_lt_of_le F1.2.2.2 hg
       have g1 : ¬ w.heap.size = g := by omega
       have g2' : ¬ g = w.heap.size := by omega
       have g3 : ¬ w.heap.size + 1 = g := by omega
       have g4 : ¬ g = w.heap.size + 1 := by omega
       have hbS := F3.bel.setCell (p := ⟨g, n * 3 + 2, none⟩) (by show w.heap.size ≤ g; omega) (Value.bool b)
       have B0 := F3.b0.far (p := ⟨g, n * 3 + 2, none⟩) g1 (Value.bool b)
       have B1 := F3.b1.far (p := ⟨g, n * 3 + 2, none⟩) g3 (Value.bool b)
       have HL1 := Lib.hid (show (p.es.set n { e with m := b }).length = p.es.length from List.length_set)
       have hO4 := hO3.rd
       obtain ⟨c0', c1', c2', c3', c4', c5'⟩ := F3.b0.six)
    | (go_at_call 30; refine (rwith_c p _ (HR.out.below hbS) hO4).mono ?_; rintro _ w3 ⟨rfl, hb3⟩; unfold pgV; have B3 := B1.below hb3 B1.lt; obtain ⟨r0', r1', r2', r3', r4', r5'⟩ := B3.six; obtain ⟨f0', f1', f2', f3', f4', f5'⟩ := B3.six_free; have hb4 := hbS.trans (hb3.mono hbS.size))
    | fail)
  generalize hW : World.setCell _ _ _ = W
  have hbl := bel_set6 hb4 (by omega) hW
  obtain ⟨x0, x1, x2, x3, x4, x5⟩ := (B3.set6 hW).six
  have hR6 := Kd.R_lower (OwQ.set6 hO3 hb3 F1.2.2.2 hW) F1.bel.size
  refine bodyPost_ret (v := .tuple #[.agg #[.int .i64 p.lsn, .int .i64 p.kind, .int .i64 p.level, .int .i64 p.right, .string p.high, .slice (some ⟨g, 0, none⟩) p.es.length cap], .int .i64 0]) (by simp [results, Try.results22, go_sem, x0, x1, x2, x3, x4, x5]) rfl ?_
  rw [HI.out]
  exact ⟨_, rfl, hR6, hbl⟩
end Go.Proofs.Ytldmhfpgcflplaa

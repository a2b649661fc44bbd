/-
  The reference's Insert.
-/
import Derived.Test.YtldmhfpgcflplaaNdSp
set_option linter.unusedVariables false
set_option linter.unusedSimpArgs false
namespace Go.Proofs.Ytldmhfpgcflplaa
open Go Go.RowKit Go.Proofs.Ytldmhfpgcflplaa.PA Go.Proofs.YtldmhfpgcflplaaW.PrintWords NdP

def PgPostQ (w : World) (r : Pg × Int) (x : Ending) (w' : World) : Prop := ∃ v, x = .returned (.tuple #[pgV r.1 v, .int .i64 r.2]) ∧ OwQ w' w.heap.size v r.1.es ∧ Below w.heap.size w w'
theorem PgPostQ.zero {w w' : World} (n : Int) (h : Below w.heap.size w w') : PgPostQ w (NdP.zero, n) (.returned (.tuple #[.agg #[.int .i64 0, .int .i64 0, .int .i64 0, .int .i64 0, .string ⟨#[]⟩, .slice none 0 0], .int .i64 n])) w' := ⟨_, rfl, Kd.R_nil _ _ _ _ _, h⟩
theorem RdQ.alloc3 {w : World} {s : Value} {l : List Ent} {a b c : Obj} (h : RdQ w s l) : RdQ (((w.alloc a).alloc b).alloc c) s l :=
  h.below ((((Below.refl w.heap.size w).alloc (Nat.le_refl _) _).alloc (by simp) _).alloc (by simp; omega) _)
theorem C_take56 {w : World} {A : Option Addr} {l : List Ent} (n : Nat) (hn : n ≤ l.length) (h : Kd.C k56 w A (l.map c56).length (l.map c56)) : Kd.C k56 w A ((l.take n).map c56).length ((l.take n).map c56) := by
  rw [List.map_take]
  exact Kd.C_take h (by simpa using hn)
theorem C_drop56 {w : World} {A : Option Addr} {c : Nat} {l : List Ent} (n : Nat) (hn : n ≤ l.length) (hc : l.length ≤ c) (h : Kd.C k56 w A (l.map c56).length (l.map c56)) : Kd.C k56 w (if c = n then A else A.map (·.add (n * 3))) ((l.drop n).map c56).length ((l.drop n).map c56) := by
  rw [List.map_drop]
  exact Kd.C_drop h (by simpa using hn) (by simpa using hc)

theorem OwQ.set6 {w W : World} {base b : Nat} {s : Value} {l : List Ent} {v0 v1 v2 v3 v4 v5 : Value} {w7 : World} (h : OwQ w base s l) (hb : Below w.heap.size w w7) (hlt : b < base)
    (hW : (((((w7.setCell ⟨b, 0, none⟩ v0).setCell ⟨b, 1, none⟩ v1).setCell ⟨b, 2, none⟩ v2).setCell ⟨b, 3, none⟩ v3).setCell ⟨b, 4, none⟩ v4).setCell ⟨b, 5, none⟩ v5 = W) : OwQ W base s l := by
  subst hW
  refine Kd.R_mono (Kd.R_move (Kd.R_bound h) (fun k hk => ?_)) (fun _ _ => trivial)
  have hne : k ≠ b := by have := hk.2.1; omega
  rw [Below.heap_setCell _ _ _ _ hne, Below.heap_setCell _ _ _ _ hne, Below.heap_setCell _ _ _ _ hne, Below.heap_setCell _ _ _ _ hne, Below.heap_setCell _ _ _ _ hne, Below.heap_setCell _ _ _ _ hne]
  exact hb.block k hk.2.2.1
set_option maxRecDepth 100000 in
set_option maxHeartbeats 1600000 in
theorem rinsert_c (p : Pg) (e : Ent) {s : Value} (w : World) (hs : Small p.es) (hl : p.es.length ≤ 900) (hh : p.high.size ≤ 1000) (hr : RdQ w s p.es) : Calls Try.prog 20 #[pgV p s, enV e] w (PgPostQ w (ins p e)) := by
  have HR := Lib.hid hr
  have HS := Lib.hid hs
  obtain ⟨A, c, rfl, hc, hm, hC⟩ := hr
  have HC := Lib.hid hC
  have HLL := Lib.hid hl
  have HHH := Lib.hid hh
  clear hC hs hm hh hl
  by_cases h1 : 64 < e.k.size
  · have HI : Hid (ins p e = (zero, 1)) := by unfold Hid ins; rw [if_pos (Or.inl h1)]
    have h1' : (64 : Int) < (e.k.size : Int) := by omega
    unfold pgV enV
    go_enter Try.func20, Try.ntmps20
    go_wp2_with fail
    refine bodyPost_ret (v := .tuple #[.agg #[.int .i64 0, .int .i64 0, .int .i64 0, .int .i64 0, .string ⟨#[]⟩, .slice none 0 0], .int .i64 1]) (by simp [results, Try.results20, go_sem]) rfl ?_
    rw [HI.out]
    refine PgPostQ.zero _ ?_
    repeat (first | exact Below.refl _ _ | assumption | refine Below.drew ?_ | refine Below.setCell ?_ (by simp <;> omega) _ | refine Below.alloc ?_ (by simp <;> omega) _)
  by_cases h2 : 100 < e.v.size
  · have HI : Hid (ins p e = (zero, 1)) := by unfold Hid ins; rw [if_pos (Or.inr (Or.inl h2))]
    have h1' : ¬ (64 : Int) < (e.k.size : Int) := by omega
    have h2' : (100 : Int) < (e.v.size : Int) := by omega
    unfold pgV enV
    go_enter Try.func20, Try.ntmps20
    go_wp2_with fail
    refine bodyPost_ret (v := .tuple #[.agg #[.int .i64 0, .int .i64 0, .int .i64 0, .int .i64 0, .string ⟨#[]⟩, .slice none 0 0], .int .i64 1]) (by simp [results, Try.results20, go_sem]) rfl ?_
    rw [HI.out]
    refine PgPostQ.zero _ ?_
    repeat (first | exact Below.refl _ _ | assumption | refine Below.drew ?_ | refine Below.setCell ?_ (by simp <;> omega) _ | refine Below.alloc ?_ (by simp <;> omega) _)
  have h1' : ¬ (64 : Int) < (e.k.size : Int) := by omega
  have h2' : ¬ (100 : Int) < (e.v.size : Int) := by omega
  by_cases hE : p.high.toList = []
  · have hE2 : (!p.high.toList.isEmpty) = false := by simp [hE]
    have HCV : Hid (covers p e.k = true) := by unfold Hid covers; simp [hE]
    have HI : Hid (there p.es e.k = true → ins p e = (zero, 12)) := fun h => by unfold ins; rw [if_neg (by rw [HCV.out]; simp [h1, h2]), if_pos h]
    have HI2 : Hid (there p.es e.k = false → ins p e = if free p < (size e : Int) then (zero, 8) else ({ p with es := p.es.take (place p.es e.k) ++ e :: p.es.drop (place p.es e.k) }, 0)) := fun h => by unfold ins; rw [if_neg (by rw [HCV.out]; simp [h1, h2]), if_neg (by rw [h]; simp)]
    clear HCV
    unfold pgV enV
    go_enter Try.func20, Try.ntmps20
    go_wp2_with fail
    refine (place_c (p := p) (key := e.k) (Nat.le_trans HLL.out (by decide)) HR.out.alloc3).mono ?_
    rintro _ w1 ⟨rfl, hb1⟩
    have F1 := (Fr3.start w _ _ _ _ _ _).below hb1
    obtain ⟨c0, c1, c2, c3, c4, c5⟩ := F1.b0.six
    obtain ⟨e0, e1, e2⟩ := F1.b1.three
    obtain ⟨r0, r1, r2, r3, r4, r5⟩ := F1.b2.six
    obtain ⟨f0, f1, f2, f3, f4, f5⟩ := F1.b2.six_free
    cases hth : there p.es e.k
    rotate_left
    · have HI := Lib.hid (HI.out hth)
      clear hth
      go_wp2_with fail
      generalize hW : World.setCell _ _ _ = W
      have hbl := bel_set6 F1.bel (by omega) hW
      obtain ⟨x0, x1, x2, x3, x4, x5⟩ := (F1.b2.set6 hW).six
      refine bodyPost_ret (v := .tuple #[.agg #[.int .i64 0, .int .i64 0, .int .i64 0, .int .i64 0, .string ⟨#[]⟩, .slice none 0 0], .int .i64 12]) (by simp [results, Try.results20, go_sem, x0, x1, x2, x3, x4, x5]) rfl ?_
      rw [HI.out]
      exact PgPostQ.zero _ hbl
    have HI := Lib.hid (HI2.out hth)
    clear hth HI2
    have HP := Lib.hid (place_le p.es e.k)
    have HC4 := Lib.hid (Kd.C_below HC.out F1.bel)
    have HCt := Lib.hid (C_take56 _ HP.out HC4.out)
    have HCd := Lib.hid (C_drop56 _ HP.out hc HC4.out)
    generalize hn : place p.es e.k = n at *
    clear hn
    have hn0 : (0 : Int) ≤ (n : Int) := by omega
    have hn1 : (n : Int) ≤ (p.es.length : Int) := by have := HP.out; omega
    have hn2 : (n : Int) ≤ (c : Int) := by have := HP.out; omega
    have HL1 : Hid ((p.es.take n).length = n) := by unfold Hid; rw [List.length_take]; have := HP.out; omega
    have HL2 : Hid ((p.es.drop n).length = p.es.length - n) := by unfold Hid; rw [List.length_drop]
    obtain ⟨L, hL⟩ : ∃ L, L = p.es.take n ++ e :: p.es.drop n := ⟨_, rfl⟩
    rw [← hL] at HI
    have HLl : Hid (L.length = p.es.length + 1) := by unfold Hid; rw [hL, List.length_append, List.length_cons, HL1.out, HL2.out]; have := HP.out; omega
    have HLs : Hid (Small L) := by
      refine ⟨by rw [HLl.out]; have := HLL.out; omega, fun x hx => ?_⟩
      rw [hL] at hx
      rcases mem_ins.1 hx with rfl | hx
      · omega
      · exact HS.out.2 x hx
    have HLf : Hid (sizes L = sizes p.es + size e) := by unfold Hid; rw [hL]; exact sizes_ins _ _ _
    have HLm : Hid ((p.es.take n).map c56 ++ [c56 e] ++ (p.es.drop n).map c56 = L.map c56) := by unfold Hid; rw [hL]; simp
    clear hL
    by_cases hcn : c = n
    · have HCd := Lib.hid (show Kd.C k56 w1 A ((p.es.drop n).map c56).length ((p.es.drop n).map c56) by have := HCd.out; rwa [if_pos hcn] at this)
      obtain rfl : n = c := hcn.symm
      have HL2 : Hid ((p.es.drop n).length = 0) := by unfold Hid; rw [List.length_drop]; omega
      go_wp2_with (first
        | (at_builtin; refine Kd.R_append_rows k56 (w0 := w1) (W := w1) w1.heap.size rfl (.tmp 42) (.tmp 46) 29 56 _ 40 rfl Try.underlying29 info56 rfl (by decide) (by omega) (.slice none 0 0) [] ((p.es.take n).map c56) A n _ (fun _ => True) (fun _ => False) rfl rfl (Kd.R_nil _ _ _ _ _) (by have := HCt.out; rw [List.length_map, HL1.out] at this; exact this) (fun x cs h => K56_M _ _ _ h) (fun _ h => h.elim) (fun _ _ => trivial) (Below.refl _ _) (Nat.le_refl _) (by have := HLL.out; have := HP.out; simp; omega) ?_; intro v2 w2 hO2 hb2 hg2 ha2; rw [List.nil_append] at hO2; clear hg2 ha2; have F2 := F1.below hb2; obtain ⟨e0', e1', e2'⟩ := F2.b1.three; obtain ⟨c0', c1', c2', c3', c4', c5'⟩ := F2.b0.six)
        | (at_builtin; refine Kd.R_append k56 (w0 := w1) (W := w2) w1.heap.size rfl (.tmp 48) (.tmp 50) 29 56 _ 40 rfl Try.underlying29 info56 rfl (by decide) (by omega) v2 _ (c56 e) [.string e.k, .string e.v, .bool e.m] (fun _ => True) (fun _ => False) rfl rfl (k56_mkM _ _ _ (c56 e)) (fun _ h => h.elim) (fun _ _ => trivial) hO2 hb2 hb2.size (by rw [List.length_map, HL1.out]; have := HLL.out; have := HP.out; omega) ?_; intro v3 w3 hO3 hb3 hg3 ha3; clear hg3 ha3; have F3 := F1.below hb3; obtain ⟨e0'', e1'', e2''⟩ := F3.b1.three; obtain ⟨c0'', c1'', c2'', c3'', c4'', c5''⟩ := F3.b0.six)
        | (at_builtin; refine Kd.R_append_rows k56 (w0 := w1) (W := w3) w1.heap.size rfl (.tmp 52) (.tmp 56) 29 56 _ 40 rfl Try.underlying29 info56 rfl (by decide) (by omega) v3 _ ((p.es.drop n).map c56) A 0 _ (fun _ => True) (fun _ => False) rfl rfl hO3 (by have := Kd.C_below HCd.out hb3; rw [List.length_map, HL2.out] at this; exact this) (fun x cs h => K56_M _ _ _ h) (fun _ h => h.elim) (fun _ _ => trivial) hb3 hb3.size (by rw [List.length_append, List.length_map, HL1.out]; have := HLL.out; have := HP.out; simp; omega) ?_; intro v4 w4 hO4 hb4 hg4 ha4; clear hg4 ha4; rw [HLm.out] at hO4; have F4 := F1.below hb4; obtain ⟨c0x, c1x, c2x, c3x, c4x, c5x⟩ := F4.b0.six; obtain ⟨A4, c4, rfl, _⟩ := OwQ.rd hO4)
        | (go_at_call 30; refine (rwith_c p w4 (HR.out.below F4.bel) (OwQ.rd hO4)).mono ?_; rintro _ w5 ⟨rfl, hb5⟩; have F5 := F4.below hb5; have hR5 := Lib.hid ((OwQ.rd hO4).below hb5); have hO5 := Lib.hid (show OwQ w5 w1.heap.size _ L from Kd.R_below hO4 hb5); unfold pgV)
        | fail)
      have X9 := bx_new w5 #[.int .i64 p.lsn, .int .i64 p.kind, .int .i64 p.level, .int .i64 p.right, .string p.high, .slice A4 L.length c4] 31
      have F6 := F5.alloc (.cells #[.int .i64 p.lsn, .int .i64 p.kind, .int .i64 p.level, .int .i64 p.right, .string p.high, .slice A4 L.length c4] 31)
      have hR6 := Lib.hid (hR5.out.below ((Below.refl w5.heap.size w5).alloc (Nat.le_refl _) (.cells #[.int .i64 p.lsn, .int .i64 p.kind, .int .i64 p.level, .int .i64 p.right, .string p.high, .slice A4 L.length c4] 31)))
      refine (rfree_c (p := { p with es := L }) HLs.out HHH.out hR6.out).mono ?_
      rintro _ w7 ⟨rfl, hb7⟩
      have F7 := F6.below hb7
      have X7 := X9.below hb7 X9.lt
      have hO7 := Lib.hid (show OwQ w7 w1.heap.size _ L from Kd.R_below (Kd.R_below hO5.out ((Below.refl w5.heap.size w5).alloc (Nat.le_refl _) (.cells #[.int .i64 p.lsn, .int .i64 p.kind, .int .i64 p.level, .int .i64 p.right, .string p.high, .slice A4 L.length c4] 31))) hb7)
      obtain ⟨z0, z1, z2, z3, z4, z5⟩ := Bx.six X7
      obtain ⟨r0', r1', r2', r3', r4', r5'⟩ := F7.b2.six
      obtain ⟨f0', f1', f2', f3', f4', f5'⟩ := F7.b2.six_free
      have HFR : Hid (free { p with es := L } = free p - (size e : Int)) := by unfold Hid free; simp only [HLf.out]; omega
      by_cases hf : free p < (size e : Int)
      · have HI : Hid (ins p e = (zero, 8)) := by rw [HI.out, if_pos hf]; rfl
        have hf' : free { p with es := L } < 0 := by rw [HFR.out]; omega
        go_wp2_with fail
        generalize hW : World.setCell _ _ _ = W
        have hbl := bel_set6 F7.bel (by omega) hW
        obtain ⟨x0, x1, x2, x3, x4, x5⟩ := (F7.b2.set6 hW).six
        refine bodyPost_ret (v := .tuple #[.agg #[.int .i64 0, .int .i64 0, .int .i64 0, .int .i64 0, .string ⟨#[]⟩, .slice none 0 0], .int .i64 8]) (by simp [results, Try.results20, go_sem, x0, x1, x2, x3, x4, x5]) rfl ?_
        rw [HI.out]
        exact PgPostQ.zero _ hbl
      · have HI : Hid (ins p e = ({ p with es := L }, 0)) := by rw [HI.out, if_neg hf]; rfl
        have hf' : ¬ free { p with es := L } < 0 := by rw [HFR.out]; omega
        go_wp2_with fail
        generalize hW : World.setCell _ _ _ = W
        have hbl := bel_set6 F7.bel (by omega) hW
        have hRW := Kd.R_lower (OwQ.set6 hO7.out (Below.refl _ _) (by have := F1.2.2.2.2; omega) hW) F1.bel.size
        obtain ⟨x0, x1, x2, x3, x4, x5⟩ := (F7.b2.set6 hW).six
        refine bodyPost_ret (v := .tuple #[.agg #[.int .i64 p.lsn, .int .i64 p.kind, .int .i64 p.level, .int .i64 p.right, .string p.high, .slice A4 L.length c4], .int .i64 0]) (by simp [results, Try.results20, go_sem, x0, x1, x2, x3, x4, x5]) rfl ?_
        rw [HI.out]
        exact ⟨_, rfl, hRW, hbl⟩
    have HCd := Lib.hid (show Kd.C k56 w1 (A.map (·.add (n * 3))) ((p.es.drop n).map c56).length ((p.es.drop n).map c56) by have := HCd.out; rwa [if_neg hcn] at this)
    go_wp2_with (first
      | (at_builtin; refine Kd.R_append_rows k56 (w0 := w1) (W := w1) w1.heap.size rfl (.tmp 42) (.tmp 46) 29 56 _ 40 rfl Try.underlying29 info56 rfl (by decide) (by omega) (.slice none 0 0) [] ((p.es.take n).map c56) A n _ (fun _ => True) (fun _ => False) rfl rfl (Kd.R_nil _ _ _ _ _) (by have := HCt.out; rw [List.length_map, HL1.out] at this; exact this) (fun x cs h => K56_M _ _ _ h) (fun _ h => h.elim) (fun _ _ => trivial) (Below.refl _ _) (Nat.le_refl _) (by have := HLL.out; have := HP.out; simp; omega) ?_; intro v2 w2 hO2 hb2 hg2 ha2; rw [List.nil_append] at hO2; clear hg2 ha2; have F2 := F1.below hb2; obtain ⟨e0', e1', e2'⟩ := F2.b1.three; obtain ⟨c0', c1', c2', c3', c4', c5'⟩ := F2.b0.six)
      | (at_builtin; refine Kd.R_append k56 (w0 := w1) (W := w2) w1.heap.size rfl (.tmp 48) (.tmp 50) 29 56 _ 40 rfl Try.underlying29 info56 rfl (by decide) (by omega) v2 _ (c56 e) [.string e.k, .string e.v, .bool e.m] (fun _ => True) (fun _ => False) rfl rfl (k56_mkM _ _ _ (c56 e)) (fun _ h => h.elim) (fun _ _ => trivial) hO2 hb2 hb2.size (by rw [List.length_map, HL1.out]; have := HLL.out; have := HP.out; omega) ?_; intro v3 w3 hO3 hb3 hg3 ha3; clear hg3 ha3; have F3 := F1.below hb3; obtain ⟨e0'', e1'', e2''⟩ := F3.b1.three; obtain ⟨c0'', c1'', c2'', c3'', c4'', c5''⟩ := F3.b0.six)
      | (at_builtin; refine Kd.R_append_rows k56 (w0 := w1) (W := w3) w1.heap.size rfl (.tmp 52) (.tmp 56) 29 56 _ 40 rfl Try.underlying29 info56 rfl (by decide) (by omega) v3 _ ((p.es.drop n).map c56) (A.map (·.add (n * 3))) (p.es.length - n) _ (fun _ => True) (fun _ => False) rfl rfl hO3 (by have := Kd.C_below HCd.out hb3; rw [List.length_map, HL2.out] at this; exact this) (fun x cs h => K56_M _ _ _ h) (fun _ h => h.elim) (fun _ _ => trivial) hb3 hb3.size (by rw [List.length_append, List.length_map, HL1.out]; have := HLL.out; have := HP.out; simp; omega) ?_; intro v4 w4 hO4 hb4 hg4 ha4; clear hg4 ha4; rw [HLm.out] at hO4; have F4 := F1.below hb4; obtain ⟨c0x, c1x, c2x, c3x, c4x, c5x⟩ := F4.b0.six; obtain ⟨A4, c4, rfl, _⟩ := OwQ.rd hO4)
      | (go_at_call 30; refine (rwith_c p w4 (HR.out.below F4.bel) (OwQ.rd hO4)).mono ?_; rintro _ w5 ⟨rfl, hb5⟩; have F5 := F4.below hb5; have hR5 := Lib.hid ((OwQ.rd hO4).below hb5); have hO5 := Lib.hid (show OwQ w5 w1.heap.size _ L from Kd.R_below hO4 hb5); unfold pgV)
      | fail)
    have X9 := bx_new w5 #[.int .i64 p.lsn, .int .i64 p.kind, .int .i64 p.level, .int .i64 p.right, .string p.high, .slice A4 L.length c4] 31
    have F6 := F5.alloc (.cells #[.int .i64 p.lsn, .int .i64 p.kind, .int .i64 p.level, .int .i64 p.right, .string p.high, .slice A4 L.length c4] 31)
    have hR6 := Lib.hid (hR5.out.below ((Below.refl w5.heap.size w5).alloc (Nat.le_refl _) (.cells #[.int .i64 p.lsn, .int .i64 p.kind, .int .i64 p.level, .int .i64 p.right, .string p.high, .slice A4 L.length c4] 31)))
    refine (rfree_c (p := { p with es := L }) HLs.out HHH.out hR6.out).mono ?_
    rintro _ w7 ⟨rfl, hb7⟩
    have F7 := F6.below hb7
    have X7 := X9.below hb7 X9.lt
    have hO7 := Lib.hid (show OwQ w7 w1.heap.size _ L from Kd.R_below (Kd.R_below hO5.out ((Below.refl w5.heap.size w5).alloc (Nat.le_refl _) (.cells #[.int .i64 p.lsn, .int .i64 p.kind, .int .i64 p.level, .int .i64 p.right, .string p.high, .slice A4 L.length c4] 31))) hb7)
    obtain ⟨z0, z1, z2, z3, z4, z5⟩ := Bx.six X7
    obtain ⟨r0', r1', r2', r3', r4', r5'⟩ := F7.b2.six
    obtain ⟨f0', f1', f2', f3', f4', f5'⟩ := F7.b2.six_free
    have HFR : Hid (free { p with es := L } = free p - (size e : Int)) := by unfold Hid free; simp only [HLf.out]; omega
    by_cases hf : free p < (size e : Int)
    · have HI : Hid (ins p e = (zero, 8)) := by rw [HI.out, if_pos hf]; rfl
      have hf' : free { p with es := L } < 0 := by rw [HFR.out]; omega
      go_wp2_with fail
      generalize hW : World.setCell _ _ _ = W
      have hbl := bel_set6 F7.bel (by omega) hW
      obtain ⟨x0, x1, x2, x3, x4, x5⟩ := (F7.b2.set6 hW).six
      refine bodyPost_ret (v := .tuple #[.agg #[.int .i64 0, .int .i64 0, .int .i64 0, .int .i64 0, .string ⟨#[]⟩, .slice none 0 0], .int .i64 8]) (by simp [results, Try.results20, go_sem, x0, x1, x2, x3, x4, x5]) rfl ?_
      rw [HI.out]
      exact PgPostQ.zero _ hbl
    · have HI : Hid (ins p e = ({ p with es := L }, 0)) := by rw [HI.out, if_neg hf]; rfl
      have hf' : ¬ free { p with es := L } < 0 := by rw [HFR.out]; omega
      go_wp2_with fail
      generalize hW : World.setCell _ _ _ = W
      have hbl := bel_set6 F7.bel (by omega) hW
      have hRW := Kd.R_lower (OwQ.set6 hO7.out (Below.refl _ _) (by have := F1.2.2.2.2; omega) hW) F1.bel.size
      obtain ⟨x0, x1, x2, x3, x4, x5⟩ := (F7.b2.set6 hW).six
      refine bodyPost_ret (v := .tuple #[.agg #[.int .i64 p.lsn, .int .i64 p.kind, .int .i64 p.level, .int .i64 p.right, .string p.high, .slice A4 L.length c4], .int .i64 0]) (by simp [results, Try.results20, go_sem, x0, x1, x2, x3, x4, x5]) rfl ?_
      rw [HI.out]
      exact ⟨_, rfl, hRW, hbl⟩
  have hE2 : (!p.high.toList.isEmpty) = true := by simp [hE]
  cases hlt : Op.bytesLess e.k.toList p.high.toList
  · have hge : (!Op.bytesLess e.k.toList p.high.toList) = true := by rw [hlt]; rfl
    have HI : Hid (ins p e = (zero, 1)) := by
      unfold Hid ins
      rw [if_pos (Or.inr (Or.inr (by unfold covers lss; rw [hlt]; simp [hE])))]
    clear hlt
    unfold pgV enV
    go_enter Try.func20, Try.ntmps20
    go_wp2_with fail
    refine bodyPost_ret (v := .tuple #[.agg #[.int .i64 0, .int .i64 0, .int .i64 0, .int .i64 0, .string ⟨#[]⟩, .slice none 0 0], .int .i64 1]) (by simp [results, Try.results20, go_sem]) rfl ?_
    rw [HI.out]
    refine PgPostQ.zero _ ?_
    repeat (first | exact Below.refl _ _ | assumption | refine Below.drew ?_ | refine Below.setCell ?_ (by simp <;> omega) _ | refine Below.alloc ?_ (by simp <;> omega) _)
  have hge : (!Op.bytesLess e.k.toList p.high.toList) = false := by rw [hlt]; rfl
  have HCV : Hid (covers p e.k = true) := by unfold Hid covers lss; rw [hlt]; simp
  clear hlt
  have HI : Hid (there p.es e.k = true → ins p e = (zero, 12)) := fun h => by unfold ins; rw [if_neg (by rw [HCV.out]; simp [h1, h2]), if_pos h]
  have HI2 : Hid (there p.es e.k = false → ins p e = if free p < (size e : Int) then (zero, 8) else ({ p with es := p.es.take (place p.es e.k) ++ e :: p.es.drop (place p.es e.k) }, 0)) := fun h => by unfold ins; rw [if_neg (by rw [HCV.out]; simp [h1, h2]), if_neg (by rw [h]; simp)]
  clear HCV
  unfold pgV enV
  go_enter Try.func20, Try.ntmps20
  go_wp2_with fail
  refine (place_c (p := p) (key := e.k) (Nat.le_trans HLL.out (by decide)) HR.out.alloc3).mono ?_
  rintro _ w1 ⟨rfl, hb1⟩
  have F1 := (Fr3.start w _ _ _ _ _ _).below hb1
  obtain ⟨c0, c1, c2, c3, c4, c5⟩ := F1.b0.six
  obtain ⟨e0, e1, e2⟩ := F1.b1.three
  obtain ⟨r0, r1, r2, r3, r4, r5⟩ := F1.b2.six
  obtain ⟨f0, f1, f2, f3, f4, f5⟩ := F1.b2.six_free
  cases hth : there p.es e.k
  rotate_left
  · have HI := Lib.hid (HI.out hth)
    clear hth
    go_wp2_with fail
    generalize hW : World.setCell _ _ _ = W
    have hbl := bel_set6 F1.bel (by omega) hW
    obtain ⟨x0, x1, x2, x3, x4, x5⟩ := (F1.b2.set6 hW).six
    refine bodyPost_ret (v := .tuple #[.agg #[.int .i64 0, .int .i64 0, .int .i64 0, .int .i64 0, .string ⟨#[]⟩, .slice none 0 0], .int .i64 12]) (by simp [results, Try.results20, go_sem, x0, x1, x2, x3, x4, x5]) rfl ?_
    rw [HI.out]
    exact PgPostQ.zero _ hbl
  have HI := Lib.hid (HI2.out hth)
  clear hth HI2
  have HP := Lib.hid (place_le p.es e.k)
  have HC4 := Lib.hid (Kd.C_below HC.out F1.bel)
  have HCt := Lib.hid (C_take56 _ HP.out HC4.out)
  have HCd := Lib.hid (C_drop56 _ HP.out hc HC4.out)
  generalize hn : place p.es e.k = n at *
  clear hn
  have hn0 : (0 : Int) ≤ (n : Int) := by omega
  have hn1 : (n : Int) ≤ (p.es.length : Int) := by have := HP.out; omega
  have hn2 : (n : Int) ≤ (c : Int) := by have := HP.out; omega
  have HL1 : Hid ((p.es.take n).length = n) := by unfold Hid; rw [List.length_take]; have := HP.out; omega
  have HL2 : Hid ((p.es.drop n).length = p.es.length - n) := by unfold Hid; rw [List.length_drop]
  obtain ⟨L, hL⟩ : ∃ L, L = p.es.take n ++ e :: p.es.drop n := ⟨_, rfl⟩
  rw [← hL] at HI
  have HLl : Hid (L.length = p.es.length + 1) := by unfold Hid; rw [hL, List.length_append, List.length_cons, HL1.out, HL2.out]; have := HP.out; omega
  have HLs : Hid (Small L) := by
    refine ⟨by rw [HLl.out]; have := HLL.out; omega, fun x hx => ?_⟩
    rw [hL] at hx
    rcases mem_ins.1 hx with rfl | hx
    · omega
    · exact HS.out.2 x hx
  have HLf : Hid (sizes L = sizes p.es + size e) := by unfold Hid; rw [hL]; exact sizes_ins _ _ _
  have HLm : Hid ((p.es.take n).map c56 ++ [c56 e] ++ (p.es.drop n).map c56 = L.map c56) := by unfold Hid; rw [hL]; simp
  clear hL
  by_cases hcn : c = n
  · have HCd := Lib.hid (show Kd.C k56 w1 A ((p.es.drop n).map c56).length ((p.es.drop n).map c56) by have := HCd.out; rwa [if_pos hcn] at this)
    obtain rfl : n = c := hcn.symm
    have HL2 : Hid ((p.es.drop n).length = 0) := by unfold Hid; rw [List.length_drop]; omega
    go_wp2_with (first
      | (at_builtin; refine Kd.R_append_rows k56 (w0 := w1) (W := w1) w1.heap.size rfl (.tmp 42) (.tmp 46) 29 56 _ 40 rfl Try.underlying29 info56 rfl (by decide) (by omega) (.slice none 0 0) [] ((p.es.take n).map c56) A n _ (fun _ => True) (fun _ => False) rfl rfl (Kd.R_nil _ _ _ _ _) (by have := HCt.out; rw [List.length_map, HL1.out] at this; exact this) (fun x cs h => K56_M _ _ _ h) (fun _ h => h.elim) (fun _ _ => trivial) (Below.refl _ _) (Nat.le_refl _) (by have := HLL.out; have := HP.out; simp; omega) ?_; intro v2 w2 hO2 hb2 hg2 ha2; rw [List.nil_append] at hO2; clear hg2 ha2; have F2 := F1.below hb2; obtain ⟨e0', e1', e2'⟩ := F2.b1.three; obtain ⟨c0', c1', c2', c3', c4', c5'⟩ := F2.b0.six)
      | (at_builtin; refine Kd.R_append k56 (w0 := w1) (W := w2) w1.heap.size rfl (.tmp 48) (.tmp 50) 29 56 _ 40 rfl Try.underlying29 info56 rfl (by decide) (by omega) v2 _ (c56 e) [.string e.k, .string e.v, .bool e.m] (fun _ => True) (fun _ => False) rfl rfl (k56_mkM _ _ _ (c56 e)) (fun _ h => h.elim) (fun _ _ => trivial) hO2 hb2 hb2.size (by rw [List.length_map, HL1.out]; have := HLL.out; have := HP.out; omega) ?_; intro v3 w3 hO3 hb3 hg3 ha3; clear hg3 ha3; have F3 := F1.below hb3; obtain ⟨e0'', e1'', e2''⟩ := F3.b1.three; obtain ⟨c0'', c1'', c2'', c3'', c4'', c5''⟩ := F3.b0.six)
      | (at_builtin; refine Kd.R_append_rows k56 (w0 := w1) (W := w3) w1.heap.size rfl (.tmp 52) (.tmp 56) 29 56 _ 40 rfl Try.underlying29 info56 rfl (by decide) (by omega) v3 _ ((p.es.drop n).map c56) A 0 _ (fun _ => True) (fun _ => False) rfl rfl hO3 (by have := Kd.C_below HCd.out hb3; rw [List.length_map, HL2.out] at this; exact this) (fun x cs h => K56_M _ _ _ h) (fun _ h => h.elim) (fun _ _ => trivial) hb3 hb3.size (by rw [List.length_append, List.length_map, HL1.out]; have := HLL.out; have := HP.out; simp; omega) ?_; intro v4 w4 hO4 hb4 hg4 ha4; clear hg4 ha4; rw [HLm.out] at hO4; have F4 := F1.below hb4; obtain ⟨c0x, c1x, c2x, c3x, c4x, c5x⟩ := F4.b0.six; obtain ⟨A4, c4, rfl, _⟩ := OwQ.rd hO4)
      | (go_at_call 30; refine (rwith_c p w4 (HR.out.below F4.bel) (OwQ.rd hO4)).mono ?_; rintro _ w5 ⟨rfl, hb5⟩; have F5 := F4.below hb5; have hR5 := Lib.hid ((OwQ.rd hO4).below hb5); have hO5 := Lib.hid (show OwQ w5 w1.heap.size _ L from Kd.R_below hO4 hb5); unfold pgV)
      | fail)
    have X9 := bx_new w5 #[.int .i64 p.lsn, .int .i64 p.kind, .int .i64 p.level, .int .i64 p.right, .string p.high, .slice A4 L.length c4] 31
    have F6 := F5.alloc (.cells #[.int .i64 p.lsn, .int .i64 p.kind, .int .i64 p.level, .int .i64 p.right, .string p.high, .slice A4 L.length c4] 31)
    have hR6 := Lib.hid (hR5.out.below ((Below.refl w5.heap.size w5).alloc (Nat.le_refl _) (.cells #[.int .i64 p.lsn, .int .i64 p.kind, .int .i64 p.level, .int .i64 p.right, .string p.high, .slice A4 L.length c4] 31)))
    refine (rfree_c (p := { p with es := L }) HLs.out HHH.out hR6.out).mono ?_
    rintro _ w7 ⟨rfl, hb7⟩
    have F7 := F6.below hb7
    have X7 := X9.below hb7 X9.lt
    have hO7 := Lib.hid (show OwQ w7 w1.heap.size _ L from Kd.R_below (Kd.R_below hO5.out ((Below.refl w5.heap.size w5).alloc (Nat.le_refl _) (.cells #[.int .i64 p.lsn, .int .i64 p.kind, .int .i64 p.level, .int .i64 p.right, .string p.high, .slice A4 L.length c4] 31))) hb7)
    obtain ⟨z0, z1, z2, z3, z4, z5⟩ := Bx.six X7
    obtain ⟨r0', r1', r2', r3', r4', r5'⟩ := F7.b2.six
    obtain ⟨f0', f1', f2', f3', f4', f5'⟩ := F7.b2.six_free
    have HFR : Hid (free { p with es := L } = free p - (size e : Int)) := by unfold Hid free; simp only [HLf.out]; omega
    by_cases hf : free p < (size e : Int)
    · have HI : Hid (ins p e = (zero, 8)) := by rw [HI.out, if_pos hf]; rfl
      have hf' : free { p with es := L } < 0 := by rw [HFR.out]; omega
      go_wp2_with fail
      generalize hW : World.setCell _ _ _ = W
      have hbl := bel_set6 F7.bel (by omega) hW
      obtain ⟨x0, x1, x2, x3, x4, x5⟩ := (F7.b2.set6 hW).six
      refine bodyPost_ret (v := .tuple #[.agg #[.int .i64 0, .int .i64 0, .int .i64 0, .int .i64 0, .string ⟨#[]⟩, .slice none 0 0], .int .i64 8]) (by simp [results, Try.results20, go_sem, x0, x1, x2, x3, x4, x5]) rfl ?_
      rw [HI.out]
      exact PgPostQ.zero _ hbl
    · have HI : Hid (ins p e = ({ p with es := L }, 0)) := by rw [HI.out, if_neg hf]; rfl
      have hf' : ¬ free { p with es := L } < 0 := by rw [HFR.out]; omega
      go_wp2_with fail
      generalize hW : World.setCell _ _ _ = W
      have hbl := bel_set6 F7.bel (by omega) hW
      have hRW := Kd.R_lower (OwQ.set6 hO7.out (Below.refl _ _) (by have := F1.2.2.2.2; omega) hW) F1.bel.size
      obtain ⟨x0, x1, x2, x3, x4, x5⟩ := (F7.b2.set6 hW).six
      refine bodyPost_ret (v := .tuple #[.agg #[.int .i64 p.lsn, .int .i64 p.kind, .int .i64 p.level, .int .i64 p.right, .string p.high, .slice A4 L.length c4], .int .i64 0]) (by simp [results, Try.results20, go_sem, x0, x1, x2, x3, x4, x5]) rfl ?_
      rw [HI.out]
      exact ⟨_, rfl, hRW, hbl⟩
  have HCd := Lib.hid (show Kd.C k56 w1 (A.map (·.add (n * 3))) ((p.es.drop n).map c56).length ((p.es.drop n).map c56) by have := HCd.out; rwa [if_neg hcn] at this)
  go_wp2_with (first
    | (at_builtin; refine Kd.R_append_rows k56 (w0 := w1) (W := w1) w1.heap.size rfl (.tmp 42) (.tmp 46) 29 56 _ 40 rfl Try.underlying29 info56 rfl (by decide) (by omega) (.slice none 0 0) [] ((p.es.take n).map c56) A n _ (fun _ => True) (fun _ => False) rfl rfl (Kd.R_nil _ _ _ _ _) (by have := HCt.out; rw [List.length_map, HL1.out] at this; exact this) (fun x cs h => K56_M _ _ _ h) (fun _ h => h.elim) (fun _ _ => trivial) (Below.refl _ _) (Nat.le_refl _) (by have := HLL.out; have := HP.out; simp; omega) ?_; intro v2 w2 hO2 hb2 hg2 ha2; rw [List.nil_append] at hO2; clear hg2 ha2; have F2 := F1.below hb2; obtain ⟨e0', e1', e2'⟩ := F2.b1.three; obtain ⟨c0', c1', c2', c3', c4', c5'⟩ := F2.b0.six)
    | (at_builtin; refine Kd.R_append k56 (w0 := w1) (W := w2) w1.heap.size rfl (.tmp 48) (.tmp 50) 29 56 _ 40 rfl Try.underlying29 info56 rfl (by decide) (by omega) v2 _ (c56 e) [.string e.k, .string e.v, .bool e.m] (fun _ => True) (fun _ => False) rfl rfl (k56_mkM _ _ _ (c56 e)) (fun _ h => h.elim) (fun _ _ => trivial) hO2 hb2 hb2.size (by rw [List.length_map, HL1.out]; have := HLL.out; have := HP.out; omega) ?_; intro v3 w3 hO3 hb3 hg3 ha3; clear hg3 ha3; have F3 := F1.below hb3; obtain ⟨e0'', e1'', e2''⟩ := F3.b1.three; obtain ⟨c0'', c1'', c2'', c3'', c4'', c5''⟩ := F3.b0.six)
    | (at_builtin; refine Kd.R_append_rows k56 (w0 := w1) (W := w3) w1.heap.size rfl (.tmp 52) (.tmp 56) 29 56 _ 40 rfl Try.underlying29 info56 rfl (by decide) (by omega) v3 _ ((p.es.drop n).map c56) (A.map (·.add (n * 3))) (p.es.length - n) _ (fun _ => True) (fun _ => False) rfl rfl hO3 (by have := Kd.C_below HCd.out hb3; rw [List.length_map, HL2.out] at this; exact this) (fun x cs h => K56_M _ _ _ h) (fun _ h => h.elim) (fun _ _ => trivial) hb3 hb3.size (by rw [List.length_append, List.length_map, HL1.out]; have := HLL.out; have := HP.out; simp; omega) ?_; intro v4 w4 hO4 hb4 hg4 ha4; clear hg4 ha4; rw [HLm.out] at hO4; have F4 := F1.below hb4; obtain ⟨c0x, c1x, c2x, c3x, c4x, c5x⟩ := F4.b0.six; obtain ⟨A4, c4, rfl, _⟩ := OwQ.rd hO4)
    | (go_at_call 30; refine (rwith_c p w4 (HR.out.below F4.bel) (OwQ.rd hO4)).mono ?_; rintro _ w5 ⟨rfl, hb5⟩; have F5 := F4.below hb5; have hR5 := Lib.hid ((OwQ.rd hO4).below hb5); have hO5 := Lib.hid (show OwQ w5 w1.heap.size _ L from Kd.R_below hO4 hb5); unfold pgV)
    | fail)
  have X9 := bx_new w5 #[.int .i64 p.lsn, .int .i64 p.kind, .int .i64 p.level, .int .i64 p.right, .string p.high, .slice A4 L.length c4] 31
  have F6 := F5.alloc (.cells #[.int .i64 p.lsn, .int .i64 p.kind, .int .i64 p.level, .int .i64 p.right, .string p.high, .slice A4 L.length c4] 31)
  have hR6 := Lib.hid (hR5.out.below ((Below.refl w5.heap.size w5).alloc (Nat.le_refl _) (.cells #[.int .i64 p.lsn, .int .i64 p.kind, .int .i64 p.level, .int .i64 p.right, .string p.high, .slice A4 L.length c4] 31)))
  refine (rfree_c (p := { p with es := L }) HLs.out HHH.out hR6.out).mono ?_
  rintro _ w7 ⟨rfl, hb7⟩
  have F7 := F6.below hb7
  have X7 := X9.below hb7 X9.lt
  have hO7 := Lib.hid (show OwQ w7 w1.heap.size _ L from Kd.R_below (Kd.R_below hO5.out ((Below.refl w5.heap.size w5).alloc (Nat.le_refl _) (.cells #[.int .i64 p.lsn, .int .i64 p.kind, .int .i64 p.level, .int .i64 p.right, .string p.high, .slice A4 L.length c4] 31))) hb7)
  obtain ⟨z0, z1, z2, z3, z4, z5⟩ := Bx.six X7
  obtain ⟨r0', r1', r2', r3', r4', r5'⟩ := F7.b2.six
  obtain ⟨f0', f1', f2', f3', f4', f5'⟩ := F7.b2.six_free
  have HFR : Hid (free { p with es := L } = free p - (size e : Int)) := by unfold Hid free; simp only [HLf.out]; omega
  by_cases hf : free p < (size e : Int)
  · have HI : Hid (ins p e = (zero, 8)) := by rw [HI.out, if_pos hf]; rfl
    have hf' : free { p with es := L } < 0 := by rw [HFR.out]; omega
    go_wp2_with fail
    generalize hW : World.setCell _ _ _ = W
    have hbl := bel_set6 F7.bel (by omega) hW
    obtain ⟨x0, x1, x2, x3, x4, x5⟩ := (F7.b2.set6 hW).six
    refine bodyPost_ret (v := .tuple #[.agg #[.int .i64 0, .int .i64 0, .int .i64 0, .int .i64 0, .string ⟨#[]⟩, .slice none 0 0], .int .i64 8]) (by simp [results, Try.results20, go_sem, x0, x1, x2, x3, x4, x5]) rfl ?_
    rw [HI.out]
    exact PgPostQ.zero _ hbl
  · have HI : Hid (ins p e = ({ p with es := L }, 0)) := by rw [HI.out, if_neg hf]; rfl
    have hf' : ¬ free { p with es := L } < 0 := by rw [HFR.out]; omega
    go_wp2_with fail
    generalize hW : World.setCell _ _ _ = W
    have hbl := bel_set6 F7.bel (by omega) hW
    have hRW := Kd.R_lower (OwQ.set6 hO7.out (Below.refl _ _) (by have := F1.2.2.2.2; omega) hW) F1.bel.size
    obtain ⟨x0, x1, x2, x3, x4, x5⟩ := (F7.b2.set6 hW).six
    refine bodyPost_ret (v := .tuple #[.agg #[.int .i64 p.lsn, .int .i64 p.kind, .int .i64 p.level, .int .i64 p.right, .string p.high, .slice A4 L.length c4], .int .i64 0]) (by simp [results, Try.results20, go_sem, x0, x1, x2, x3, x4, x5]) rfl ?_
    rw [HI.out]
    exact ⟨_, rfl, hRW, hbl⟩
end Go.Proofs.Ytldmhfpgcflplaa

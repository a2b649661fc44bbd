/-
  The map in order: find, Get, Set.
-/
import Derived.Test.YtfaabbimbjegmaaDoorTpK
import Derived.Test.YtfaabbimbjegmaaDoorTpD
set_option linter.unusedVariables false
set_option linter.unusedSimpArgs false
namespace Go.Proofs.YtfaabbimbjegmaaDoor
open Go Go.RowKit Go.Proofs.YtfaabbimbjegmaaDoor.PA Go.Proofs.YtfaabbimbjegmaaDoor.SB Go.Proofs.YtfaabbimbjegmaaDoorW.PrintWords
namespace TP
/-- Below B all is as it was, but for one block. -/
structure But (B M : Nat) (w w' : World) : Prop where
  os : w'.os = w.os
  tape : w'.tape = w.tape
  output : w'.output = w.output
  size : w.heap.size ≤ w'.heap.size
  block : ∀ k, k < B → k ≠ M → w'.heap[k]? = w.heap[k]?
theorem But.of {B M : Nat} {w w' : World} (h : Below B w w') : But B M w w' := ⟨h.os, h.tape, h.output, h.size, fun k hk _ => h.block k hk⟩
theorem But.refl (B M : Nat) (w : World) : But B M w w := But.of (Below.refl B w)
theorem But.trans {B M : Nat} {a b c : World} (h : But B M a b) (k : But B M b c) : But B M a c :=
  ⟨k.os.trans h.os, k.tape.trans h.tape, k.output.trans h.output, Nat.le_trans h.size k.size, fun i hi hm => (k.block i hi hm).trans (h.block i hi hm)⟩
theorem But.set {B M : Nat} {w w' : World} (h : But B M w w') (i : Nat) (u : Value) : But B M w (w'.setCell ⟨M, i, none⟩ u) :=
  ⟨h.os, h.tape, h.output, by simpa [World.setCell] using h.size, fun k hk hm => (Below.heap_setCell w' ⟨M, i, none⟩ u k hm).trans (h.block k hk hm)⟩
theorem But.below {B M D : Nat} {w w' : World} (h : But B M w w') (hM : D ≤ M) (hB : D ≤ B) : Below D w w' := ⟨h.os, h.tape, h.output, h.size, fun k hk => h.block k (by omega) (by omega)⟩
theorem But.bx {B M b t : Nat} {w w' : World} {cs : Array Value} (h : But B M w w') (X : Bx w b cs t) (hB : b < B) (hM : b ≠ M) : Bx w' b cs t := (h.block b hB hM).trans X
theorem OwP.rd {w : World} {base : Nat} {v : Value} {l : List Pr} (h : OwP w base v l) : ∃ A c, v = .slice A l.length c ∧ l.length ≤ c ∧ Kd.C k66 w A l.length l := Kd.R_reads h.toR
theorem OwP.below {w w' : World} {base : Nat} {v : Value} {l : List Pr} (h : OwP w base v l) (hb : Below w.heap.size w w') : OwP w' base v l := pw_own_below h hb
set_option maxHeartbeats 1000000 in
set_option maxRecDepth 100000 in
theorem find_c {w : World} {base M : Nat} {v : Value} {l : List Pr} (key : ByteArray) (X : Bx w M #[v] 26) (HO : OwP w base v l) (hS : MP.Sorted l) (hl : l.length ≤ 1000) :
    Calls Tryd.prog 22 #[.pointer (some ⟨M, 0, none⟩), .string key] w fun e w' => e = .returned (.tuple #[.int .i64 (MP.place l key : Nat), .bool (MP.there l key)]) ∧ Below w.heap.size w w' := by
  obtain ⟨A, c, rfl, hlc, hC⟩ := HO.rd
  have K := keys_Value_string.calls (l.length + 1) A c l key _ _ w hC hlc (MP.find_f l key hS hl)
  have c0 : w.cell? ⟨M, 0, none⟩ = some (.slice A l.length c) := X.cell 0
  clear HO hC hS
  go_enter Tryd.func22, Tryd.ntmps22
  go_wp2_with fail
  refine K.mono ?_
  rintro _ w1 ⟨rfl, hb⟩
  go_wp2_with fail
  go_ret2
  exact ⟨rfl, hb⟩
theorem OwP.at {w : World} {base g c i : Nat} {l : List Pr} {e : Pr} {n : Nat} (h : OwP w base (.slice (some ⟨g, 0, none⟩) n c) l) (he : l[i]? = some e) :
    ∃ cur, w.heap[g]? = some (.cells cur 66 (0, 0)) ∧ base ≤ g ∧ i < l.length ∧ l.length = n ∧ l.length ≤ c ∧ c ≤ maxLen ∧ cur.size = c * 4 ∧ cur.toList.take (l.length * 4) = flatP l ∧
      w.cell? ⟨g, i * 4, none⟩ = some (.string e.f0) ∧ w.cell? ⟨g, i * 4 + 1, none⟩ = some (.string e.f1.f0) ∧ w.cell? ⟨g, i * 4 + 2, none⟩ = some (.int .i64 e.f1.f1) ∧ w.cell? ⟨g, i * 4 + 3, none⟩ = some (.bool e.f1.f2) := by
  obtain ⟨_, ⟨hv, h0⟩ | ⟨g', cap, cur, hv, hg, hh, hnc, hcm, hcs, htake⟩⟩ := h
  · cases hv
  injection hv with hv1 hv2 hv3
  injection hv1 with hv1
  injection hv1 with hv1
  subst hv1 hv3
  have hi := (List.getElem?_eq_some_iff.1 he).1
  have hcell : ∀ j u, (flatP l)[j]? = some u → w.cell? ⟨g, j, none⟩ = some u := fun j u hj => by
    rw [cell_of_row w g _ cur 66 (0, 0) hh, ← Array.getElem?_toList]
    rw [← htake, List.getElem?_take] at hj
    split at hj
    · exact hj
    · cases hj
  have hd : (flatP l).drop (i * 4) = cellsP e ++ (flatP l).drop ((i + 1) * 4) := by
    rw [flatP_drop l i (by omega), flatP_drop l (i + 1) (by omega), List.drop_eq_getElem_cons hi, flatP]
    congr 1
    rw [(List.getElem?_eq_some_iff.1 he).2]
  have hat : ∀ q u, (cellsP e)[q]? = some u → w.cell? ⟨g, i * 4 + q, none⟩ = some u := fun q u hq => by
    apply hcell
    have hq4 : q < 4 := (List.getElem?_eq_some_iff.1 hq).1
    rw [← List.getElem?_drop, hd, List.getElem?_append_left hq4]
    exact hq
  exact ⟨cur, hh, hg, hi, hv2.symm, hnc, hcm, hcs, htake, hat 0 _ rfl, hat 1 _ rfl, hat 2 _ rfl, hat 3 _ rfl⟩
theorem OwP.sl {w : World} {base : Nat} {v : Value} {l : List Pr} {i : Nat} (h : OwP w base v l) (hi : i < l.length) : ∃ g c, v = .slice (some ⟨g, 0, none⟩) l.length c := by
  obtain ⟨_, ⟨hv, h0⟩ | ⟨g', cap, cur, hv, _⟩⟩ := h
  · omega
  · exact ⟨g', cap, hv⟩
theorem OwP.free {w : World} {base g c n : Nat} {l : List Pr} (h : OwP w base (.slice (some ⟨g, 0, none⟩) n c) l) (i q : Nat) (_ : 0 ≤ i) (_ : 0 ≤ q) : w.frozen? ⟨g, i * 4 + q, none⟩ = false := by
  obtain ⟨_, ⟨hv, h0⟩ | ⟨g', cap, cur, hv, hg, hh, _⟩⟩ := h
  · cases hv
  injection hv with hv1 hv2 hv3
  injection hv1 with hv1
  injection hv1 with hv1
  subst hv1
  exact blk_frozen hh _
/-- A value written into a pair. -/
theorem own_put {w : World} {base g c i : Nat} {l : List Pr} {e : Pr} (x : S32) (h : OwP w base (.slice (some ⟨g, 0, none⟩) l.length c) l) (he : l[i]? = some e) :
    OwP (w.setCells g (i * 4 + 1) [.string x.f0, .int .i64 x.f1, .bool x.f2]) base (.slice (some ⟨g, 0, none⟩) l.length c) (l.set i ⟨e.f0, x⟩) ∧ Below base w (w.setCells g (i * 4 + 1) [.string x.f0, .int .i64 x.f1, .bool x.f2]) := by
  obtain ⟨cur, hh, hg, hi, _, hnc, hcm, hcs, htake, _⟩ := h.at he
  obtain ⟨cur', h1, s1, e1⟩ := setCells_row [.string x.f0, .int .i64 x.f1, .bool x.f2] (i * 4 + 1) w cur hh (by show i * 4 + 1 + 3 ≤ _; omega)
  refine ⟨?_, setCells_below hg _ _ _⟩
  have hl : (l.set i ⟨e.f0, x⟩).length = l.length := List.length_set
  rw [← hl]
  refine ownP_of hg h1 (by omega) hcm (by omega) ?_
  rw [hl]
  have hd : ∀ m : List Pr, ∀ y : Pr, m[i]? = Option.some y → flatP m = flatP (m.take i) ++ (cellsP y ++ flatP (m.drop (i + 1))) := fun m y hy => by
    obtain ⟨hm, hy2⟩ := List.getElem?_eq_some_iff.1 hy
    have e2 := flatP_append (m.take i) (m.drop i)
    rw [List.take_append_drop, List.drop_eq_getElem_cons hm, flatP, hy2] at e2
    exact e2
  have hcl : cur.toList.length = c * 4 := by simpa using hcs
  have hA : cur.toList = flatP (l.take i) ++ (cellsP e ++ (flatP (l.drop (i + 1)) ++ cur.toList.drop (l.length * 4))) := by
    conv => lhs; rw [← List.take_append_drop (l.length * 4) cur.toList, htake, hd l e he]
    simp only [List.append_assoc]
  have hfl : (flatP (l.take i)).length = i * 4 := by rw [flatP_length, List.length_take]; omega
  have t1 : cur.toList.take (i * 4 + 1) = flatP (l.take i) ++ [.string e.f0] := by
    rw [hA, ← hfl, List.take_length_add_append]
    rfl
  have t2 : cur.toList.drop (i * 4 + 1 + 3) = flatP (l.drop (i + 1)) ++ cur.toList.drop (l.length * 4) := by
    conv => lhs; rw [hA]
    rw [show i * 4 + 1 + 3 = (flatP (l.take i)).length + 4 by omega, List.drop_length_add_append]
    rfl
  rw [e1, t1]
  show (_ ++ _ ++ cur.toList.drop (i * 4 + 1 + 3)).take _ = _
  rw [t2, hd (l.set i ⟨e.f0, x⟩) ⟨e.f0, x⟩ (by rw [List.getElem?_set_self hi]), List.take_set_of_le (Nat.le_refl _), List.drop_set_of_lt (by omega)]
  have hfd : (flatP (l.drop (i + 1))).length = (l.length - (i + 1)) * 4 := by rw [flatP_length, List.length_drop]
  rw [show flatP (l.take i) ++ [Value.string e.f0] ++ [Value.string x.f0, .int .i64 x.f1, .bool x.f2] ++ (flatP (l.drop (i + 1)) ++ cur.toList.drop (l.length * 4)) = (flatP (l.take i) ++ (cellsP ⟨e.f0, x⟩ ++ flatP (l.drop (i + 1)))) ++ cur.toList.drop (l.length * 4) by simp [cellsP]]
  exact List.take_left' (by simp only [List.length_append, hfl, hfd]; show _ + (4 + _) = _; omega)
abbrev agV (x : S32) : Value := .agg #[.string x.f0, .int .i64 x.f1, .bool x.f2]
theorem load_val {W : World} {b : Nat} {a0 a1 a2 : Value} (h : Bx W b #[a0, a1, a2] 32) : (loadVar 32 ⟨b, 0, none⟩).run Tryd.prog W = .ok (.agg #[a0, a1, a2]) W := by
  obtain ⟨z0, z1, z2⟩ := h.three
  simp [go_sem, z0, z1, z2]
set_option maxHeartbeats 4000000 in
set_option maxRecDepth 100000 in
theorem mget_c {w : World} {base M : Nat} {v : Value} {l : List Pr} {e : Pr} (key : ByteArray) (X : Bx w M #[v] 26) (HO : OwP w base v l) (hS : MP.Sorted l) (hl : l.length ≤ 1000) (ht : MP.there l key = true) (he : l[MP.place l key]? = some e) :
    Calls Tryd.prog 14 #[.pointer (some ⟨M, 0, none⟩), .string key] w fun r w' => r = .returned (.tuple #[agV e.f1, .bool true]) ∧ Below w.heap.size w w' := by
  have HS := Lib.hid hS
  have HT := Lib.hid ht
  have HE := Lib.hid he
  have HOh := Lib.hid HO
  have hi := (List.getElem?_eq_some_iff.1 he).1
  clear hS ht he HO
  go_enter Tryd.func14, Tryd.ntmps14
  go_wp2_with fail
  have X1 := bx_new w #[.string ⟨#[]⟩, .int .i64 0, .bool false] 32
  have B1 : Below w.heap.size w (w.alloc (.cells #[.string ⟨#[]⟩, .int .i64 0, .bool false] 32)) := (Below.refl _ _).alloc (Nat.le_refl _) _
  have XM := X.below B1 X.lt
  have HO1 := Lib.hid (HOh.out.below B1)
  have hMl := X.lt
  generalize World.alloc w _ = w1 at X1 B1 XM HO1 ⊢
  refine (find_c key XM HO1.out HS.out hl).mono ?_
  rintro _ w2 ⟨rfl, hb2⟩
  have X2 := X1.below hb2 X1.lt
  have XM2 := XM.below hb2 XM.lt
  have HO2 := Lib.hid (HO1.out.below hb2)
  have B2 : Below w.heap.size w w2 := B1.trans (hb2.mono B1.size)
  clear X1 XM HO1 hb2 B1 w1
  obtain ⟨g, c, hv⟩ := HO2.out.sl hi
  subst hv
  obtain ⟨_, _, _, _, _, hlc, hcm, _, _, q0, q1, q2, q3⟩ := HO2.out.at HE.out
  obtain ⟨z0, z1, z2⟩ := X2.three
  have f0 := X2.free 0
  have f1 := X2.free 1
  have f2 := X2.free 2
  have cM : w2.cell? ⟨M, 0, none⟩ = some (.slice (some ⟨g, 0, none⟩) l.length c) := XM2.cell 0
  have htt := HT.out
  rw [htt]
  clear htt
  generalize MP.place l key = i at *
  have k0 : (0 : Int) ≤ (i : Int) := by omega
  have k1 : (i : Int) < (l.length : Int) := by omega
  go_wp2_with fail
  have X7 : Bx (((w2.setCell ⟨w.heap.size, 0, none⟩ (.string e.f1.f0)).setCell ⟨w.heap.size, 1, none⟩ (.int .i64 e.f1.f1)).setCell ⟨w.heap.size, 2, none⟩ (.bool e.f1.f2)) w.heap.size #[.string e.f1.f0, .int .i64 e.f1.f1, .bool e.f1.f2] 32 := ((X2.set 0 (.string e.f1.f0)).set 1 (.int .i64 e.f1.f1)).set 2 (.bool e.f1.f2)
  refine bodyPost_ret (v := .tuple #[agV e.f1, .bool true]) (results_cell Tryd.results14 rfl (load_val X7) rfl) rfl ?_
  exact ⟨rfl, ((B2.setCell (p := ⟨w.heap.size, 0, none⟩) (Nat.le_refl _) _).setCell (p := ⟨w.heap.size, 1, none⟩) (Nat.le_refl _) _).setCell (p := ⟨w.heap.size, 2, none⟩) (Nat.le_refl _) _⟩
set_option maxHeartbeats 4000000 in
set_option maxRecDepth 100000 in
theorem set_c {w : World} {base M : Nat} {v : Value} {l : List Pr} (key : ByteArray) (x : S32) (X : Bx w M #[v] 26) (HO : OwP w base v l) (hM : M < base) (hb : base ≤ w.heap.size) (hS : MP.Sorted l) (hl : l.length ≤ 999) :
    Calls Tryd.prog 6 #[.pointer (some ⟨M, 0, none⟩), .string key, agV x] w fun r w' => r = .returned (.tuple #[]) ∧ ∃ v', Bx w' M #[v'] 26 ∧ OwP w' base v' (MP.put l key x) ∧ But base M w w' := by
  have HS := Lib.hid hS
  have HOh := Lib.hid HO
  clear hS HO
  go_enter Tryd.func6, Tryd.ntmps6
  go_wp2_with fail
  have X1 := bx_new w #[.string x.f0, .int .i64 x.f1, .bool x.f2] 32
  have B1 : Below w.heap.size w (w.alloc (.cells #[.string x.f0, .int .i64 x.f1, .bool x.f2] 32)) := (Below.refl _ _).alloc (Nat.le_refl _) _
  have XM := X.below B1 X.lt
  have HO1 := Lib.hid (HOh.out.below B1)
  generalize World.alloc w _ = w1 at X1 B1 XM HO1 ⊢
  refine (find_c key XM HO1.out HS.out (by omega)).mono ?_
  rintro _ w2 ⟨rfl, hb2⟩
  have X2 := X1.below hb2 X1.lt
  have XM2 := XM.below hb2 XM.lt
  have HO2 := Lib.hid (HO1.out.below hb2)
  have B2 : Below w.heap.size w w2 := B1.trans (hb2.mono B1.size)
  clear X1 XM HO1 hb2 B1 w1
  have hown : Hid (∀ k, v.ownBlock = some k → base ≤ k ∧ k < w.heap.size) := fun k hk => ⟨own_base HOh.out k hk, own_lt HOh.out k hk⟩
  cases hT : MP.there l key
  · have hF : MP.put l key x = (insP l (MP.place l key) ⟨key, z32⟩).set (MP.place l key) ⟨key, x⟩ := by
      unfold MP.put MP.putV
      rw [if_neg (by rw [hT]; simp), MP.insP_at l _ _ (MP.place_le l key)]
    have HF := Lib.hid hF
    have hE := MP.insP_at l (MP.place l key) ⟨key, z32⟩ (MP.place_le l key)
    have HE := Lib.hid hE
    have hi := MP.place_le l key
    clear hF hE hT
    generalize MP.place l key = i at *
    obtain ⟨A, c0, rfl, _, _⟩ := HOh.out.rd
    have cM : w2.cell? ⟨M, 0, none⟩ = some (.slice A l.length c0) := XM2.cell 0
    have fM := XM2.free 0
    go_wp2_with fail
    have X3 := bx_new w2 #[.string key, .string ⟨#[]⟩, .int .i64 0, .bool false] 66
    have B3 : Below w2.heap.size w2 (w2.alloc (.cells #[.string key, .string ⟨#[]⟩, .int .i64 0, .bool false] 66)) := (Below.refl _ _).alloc (Nat.le_refl _) _
    have XM3 := XM2.below B3 XM2.lt
    have X23 := X2.below B3 X2.lt
    have HO3 := Lib.hid (HO2.out.below B3)
    have hw2 := B2.size
    generalize World.alloc w2 _ = w3 at X3 B3 XM3 X23 HO3 ⊢
    refine (insert_c (p := ⟨key, z32⟩) HO3.out (Nat.le_trans hb (Nat.le_trans hw2 B3.size)) (by omega) hi (fun e => by have := hown.out _ e; omega) X3).mono ?_
    rintro _ w4 ⟨v', rfl, HO4, hg4⟩
    have XM4 : Bx w4 M #[.slice A l.length c0] 26 := blk_grown XM3 hg4 (fun e => by have := hown.out _ e.symm; omega)
    have X4 : Bx w4 w.heap.size _ _ := blk_grown X23 hg4 (fun e => by have := hown.out _ e.symm; omega)
    have B4 : But base M w w4 := But.of ((B2.mono hb).trans ((B3.mono (Nat.le_trans hb hw2)).trans ((Below.refl base w3).grown hg4 (Nat.le_trans hb (Nat.le_trans hw2 B3.size)) (fun k hk => (hown.out k hk).1))))
    have hlen := insP_length l i ⟨key, z32⟩ hi
    have hbM : M < w.heap.size := by omega
    have hi0 := hi
    clear hi cM fM X3 B3 XM3 X23 HO3 hg4 X2 XM2 HO2 B2
    generalize insP l i ⟨key, z32⟩ = L at *
    have hi : i < L.length := by omega
    have hLl : L.length ≤ 1000 := by omega
    clear hlen hi0
    obtain ⟨g, c, rfl⟩ := HO4.sl hi
    have cM4 : w4.cell? ⟨M, 0, none⟩ = some (.slice A l.length c0) := XM4.cell 0
    have fM4 := XM4.free 0
    replace HO4 := Lib.hid HO4
    go_upto_region 4 with (fail)
    generalize hW : World.setCell w4 _ _ = w5
    have XM9 : Bx w5 M #[.slice (some ⟨g, 0, none⟩) L.length c] 26 := hW ▸ XM4.set 0 _
    have X9 : Bx w5 w.heap.size #[.string x.f0, .int .i64 x.f1, .bool x.f2] 32 := hW ▸ X4.far (by show w.heap.size ≠ M; omega) _
    have HO5 := Lib.hid (show OwP w5 base (.slice (some ⟨g, 0, none⟩) L.length c) L from hW ▸ own_setCell HO4.out (by show some M ≠ some g; intro e; injection e with e; have := own_base HO4.out g rfl; omega) _)
    have B5 : But base M w w5 := hW ▸ B4.set 0 _
    clear hW cM4 fM4 XM4 X4 HO4 B4 w4
    obtain ⟨_, _, hgb, _, _, hlc, hcm, _, _, q0, q1, q2, q3⟩ := HO5.out.at HE.out
    obtain ⟨z0, z1, z2⟩ := X9.three
    have f1 : w5.frozen? ⟨g, i * 4 + 1, none⟩ = false := HO5.out.free i 1 (by omega) (by omega)
    have f2 : w5.frozen? ⟨g, i * 4 + 1 + 1, none⟩ = false := HO5.out.free i 2 (by omega) (by omega)
    have f3 : w5.frozen? ⟨g, i * 4 + 1 + 2, none⟩ = false := HO5.out.free i 3 (by omega) (by omega)
    have d2 : w5.cell? ⟨g, i * 4 + 1 + 1, none⟩ = some (.int .i64 _) := q2
    have d3 : w5.cell? ⟨g, i * 4 + 1 + 2, none⟩ = some (.bool _) := q3
    have cM : w5.cell? ⟨M, 0, none⟩ = some (.slice (some ⟨g, 0, none⟩) L.length c) := XM9.cell 0
    have k0 : (0 : Int) ≤ (i : Int) := by omega
    have k1 : (i : Int) < (L.length : Int) := by omega
    go_still_tail 8, (by kernel_rfl)
    change wpList _ _ _ _ _ w5.drew
    go_wp2_with fail
    go_end0
    have PQ := own_put x HO5.out HE.out
    refine ⟨rfl, .slice (some ⟨g, 0, none⟩) L.length c, ?_, ?_, ?_⟩
    rotate_left
    · rw [HF.out]
      exact PQ.1
    · exact B5.trans (But.of PQ.2.drew)
    · exact (PQ.2.block M hM).trans XM9
  · obtain ⟨e, he, hek⟩ := MP.there_lt hT
    have hi := (List.getElem?_eq_some_iff.1 he).1
    have HE := Lib.hid he
    have HF : Hid (MP.put l key x = l.set (MP.place l key) ⟨e.f0, x⟩) := by rw [hek]; exact MP.put_old hT
    clear he hek hT
    generalize MP.place l key = i at *
    obtain ⟨g, c, hv⟩ := HO2.out.sl hi
    subst hv
    have X9 := X2
    have XM9 := XM2
    obtain ⟨_, _, hgb, _, _, hlc, hcm, _, _, q0, q1, q2, q3⟩ := HO2.out.at HE.out
    obtain ⟨z0, z1, z2⟩ := X9.three
    have f1 : w2.frozen? ⟨g, i * 4 + 1, none⟩ = false := HO2.out.free i 1 (by omega) (by omega)
    have f2 : w2.frozen? ⟨g, i * 4 + 1 + 1, none⟩ = false := HO2.out.free i 2 (by omega) (by omega)
    have f3 : w2.frozen? ⟨g, i * 4 + 1 + 2, none⟩ = false := HO2.out.free i 3 (by omega) (by omega)
    have d2 : w2.cell? ⟨g, i * 4 + 1 + 1, none⟩ = some (.int .i64 _) := q2
    have d3 : w2.cell? ⟨g, i * 4 + 1 + 2, none⟩ = some (.bool _) := q3
    have cM : w2.cell? ⟨M, 0, none⟩ = some (.slice (some ⟨g, 0, none⟩) l.length c) := XM9.cell 0
    have k0 : (0 : Int) ≤ (i : Int) := by omega
    have k1 : (i : Int) < (l.length : Int) := by omega
    go_upto_region 4 with (fail)
    go_still_tail 8, (by kernel_rfl)
    change wpList _ _ _ _ _ w2.drew
    go_wp2_with fail
    go_end0
    have PQ := own_put x HO2.out HE.out
    refine ⟨rfl, .slice (some ⟨g, 0, none⟩) l.length c, ?_, ?_, ?_⟩
    rotate_left
    · rw [HF.out]
      exact PQ.1
    · exact But.of ((B2.mono hb).trans PQ.2.drew)
    · exact (PQ.2.block M hM).trans XM9
end TP
end Go.Proofs.YtfaabbimbjegmaaDoor

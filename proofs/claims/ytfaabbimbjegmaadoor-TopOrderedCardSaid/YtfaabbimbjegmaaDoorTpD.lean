/-
  The contract of Decode: what was encoded is read back.
-/
import Derived.Test.YtfaabbimbjegmaaDoorTpV
import Derived.Test.YtfaabbimbjegmaaDoorTpW
import Derived.Test.YtfaabbimbjegmaaDoorTpY
set_option linter.unusedVariables false
set_option linter.unusedSimpArgs false
namespace Go.Proofs.YtfaabbimbjegmaaDoor
open Go Go.RowKit Go.Proofs.YtfaabbimbjegmaaDoor.PA Go.Proofs.YtfaabbimbjegmaaDoor.SB Go.Proofs.YtfaabbimbjegmaaDoorW.PrintWords
namespace TP
theorem take_f (R R' T : ByteArray) (h : R.data.toList = T.data.toList ++ R'.data.toList) : page_cutter_take.f R true (T.size : Int) = some (T, R', true) := by
  have hs : R.size = T.size + R'.size := by rw [← SB.sizeL, h, List.length_append, SB.sizeL, SB.sizeL]
  have e1 : R.extract 0 T.size = T := SB.ext (by rw [SB.extract_front, h, List.take_left' (SB.sizeL T)])
  have e2 : R.extract T.size R.size = R' := SB.ext (by rw [SB.extract_back, h, List.drop_left' (SB.sizeL T)])
  unfold page_cutter_take.f
  rw [if_neg (by omega), if_pos (by omega), if_pos (by omega), Int.toNat_natCast, e1, e2]
variable {w0 w : World} {g : Nat} {R : ByteArray}
theorem take_c (R' T : ByteArray) (h : R.data.toList = T.data.toList ++ R'.data.toList) (hI : IsS82 w0 w g R true) (hB : Below w0.heap.size w0 w) :
    Calls Tryd.prog 35 #[.pointer (some ⟨g, 0, none⟩), .int .i64 T.size] w fun e w' => e = .returned (.string T) ∧ IsS82 w0 w' g R' true ∧ Below w0.heap.size w0 w' ∧ KeepBut w w' g none :=
  page_cutter_take.calls g R true T.size T R' true w0 w hI hB (take_f R R' T h)
theorem num_f (R' : ByteArray) (n z : Nat) (h1 : 1 ≤ z) (h7 : z ≤ 7) (hn : n < 256 ^ z) (h : R.data.toList = be n z ++ R'.data.toList) : ∃ k, page_cutter_number.f k R true (z : Int) = some ((n : Int), R', true) := by
  obtain ⟨K, hK⟩ := get_f (nb n z)
  have ht := take_f R R' (nb n z) (by rw [nb_list]; exact h)
  rw [nb_size] at ht
  refine ⟨K, ?_⟩
  have hK := hK K (Nat.le_refl _)
  dsimp only at hK
  unfold page_cutter_number.f
  rw [ht]
  simp only [Option.bind_some]
  rw [hK, get_nb h7 hn]
  rfl
theorem num1_c (R' : ByteArray) (n : Nat) (hn : n < 256) (h : R.data.toList = be n 1 ++ R'.data.toList) (hI : IsS82 w0 w g R true) (hB : Below w0.heap.size w0 w) :
    Calls Tryd.prog 34 #[.pointer (some ⟨g, 0, none⟩), .int .i64 1] w fun e w' => e = .returned (.int .i64 n) ∧ IsS82 w0 w' g R' true ∧ Below w0.heap.size w0 w' ∧ KeepBut w w' g none := by
  obtain ⟨k, hk⟩ := num_f R' n 1 (by decide) (by decide) (by omega) h
  exact page_cutter_number.calls k g R true 1 n R' true w0 w hI hB hk
theorem num2_c (R' : ByteArray) (n : Nat) (hn : n < 65536) (h : R.data.toList = be n 2 ++ R'.data.toList) (hI : IsS82 w0 w g R true) (hB : Below w0.heap.size w0 w) :
    Calls Tryd.prog 34 #[.pointer (some ⟨g, 0, none⟩), .int .i64 2] w fun e w' => e = .returned (.int .i64 n) ∧ IsS82 w0 w' g R' true ∧ Below w0.heap.size w0 w' ∧ KeepBut w w' g none := by
  obtain ⟨k, hk⟩ := num_f R' n 2 (by decide) (by decide) (by omega) h
  exact page_cutter_number.calls k g R true 2 n R' true w0 w hI hB hk
theorem take0_c (hI : IsS82 w0 w g R true) (hB : Below w0.heap.size w0 w) :
    Calls Tryd.prog 35 #[.pointer (some ⟨g, 0, none⟩), .int .i64 0] w fun e w' => e = .returned (.string ⟨#[]⟩) ∧ IsS82 w0 w' g R true ∧ Below w0.heap.size w0 w' ∧ KeepBut w w' g none :=
  take_c R ⟨#[]⟩ rfl hI hB
theorem keepX {w' : World} {b t : Nat} {cs : Array Value} (h : Bx w b cs t) (hk : KeepBut w w' g none) (hne : ¬ b = g) : Bx w' b cs t := hk.blk h hne (by simp)
theorem keepE {w' : World} {base : Nat} {v : Value} {l : List E} (h : OwE w base v l) (hI : IsS82 w0 w g R true) (hk : KeepBut w w' g none) : OwE w' base v l :=
  Kd.R_mono (Kd.R_keep (hI.apart h (by decide)) hk (fun _ h => h.2)) (fun _ _ => trivial)
theorem cutC (h : IsS82 w0 w g R true) : w.cell? ⟨g, 0, none⟩ = some (.string R) ∧ w.cell? ⟨g, 1, none⟩ = some (.bool true) ∧ w.frozen? ⟨g, 0, none⟩ = false ∧ w.frozen? ⟨g, 1, none⟩ = false :=
  ⟨blk_cell h.1 0, blk_cell h.1 1, blk_frozen h.1 0, blk_frozen h.1 1⟩
theorem mem_left {c x : UInt8} (hx : x ≠ c) : ∀ {l : List UInt8}, x ∈ l → x ∈ l.dropWhile (· == c)
  | [], h => h
  | y :: l, h => by
    rw [List.dropWhile_cons]
    by_cases hy : (y == c) = true
    · rw [if_pos hy]
      rcases List.mem_cons.1 h with h | h
      · subst h
        exact absurd (beq_iff_eq.1 hy) hx
      · exact mem_left hx h
    · rw [if_neg hy]
      exact h
theorem trim_ne {c x : UInt8} (hx : x ≠ c) {l : List UInt8} (h : x ∈ l) : Lib.trimB l c ≠ [] := by
  have h1 : x ∈ Lib.trimRightB l c := by
    unfold Lib.trimRightB
    rw [List.mem_reverse]
    exact mem_left hx (by rw [List.mem_reverse]; exact h)
  have h2 : x ∈ Lib.trimB l c := by
    unfold Lib.trimB Lib.trimLeftB
    exact mem_left hx h1
  intro h0
  rw [h0] at h2
  cases h2
theorem nought_c (s : ByteArray) (hs : s.size ≤ 9223372036854775807) {x : UInt8} (hx : x ≠ 0) (hm : x ∈ s.data.toList) (w : World) : Calls Tryd.prog 31 #[.string s] w fun e w' => e = .returned (.bool false) ∧ Below w.heap.size w w' := by
  have hne := trim_ne hx hm
  generalize hT : Lib.trimB s.data.toList 0 = T at hne
  have hE : T.isEmpty = false := by
    cases T with
    | nil => exact absurd rfl hne
    | cons a b => rfl
  have hc := Tryd.strings_Trim_one s 0 (by decide) w hs
  rw [hT] at hc
  go_enter Tryd.func31, Tryd.ntmps31
  go_wp2_with fail
  refine hc.mono ?_
  rintro _ w1 ⟨rfl, hw⟩
  have hb : Below w.heap.size w w1 := by
    rcases hw with rfl | rfl
    · exact Below.refl _ _
    · exact (Below.refl _ _).drew
  clear hc
  go_wp2_with fail
  go_ret
  exact ⟨rfl, hb⟩
theorem lsn_c (n : Nat) (b : List UInt8) (hb : b.length = 496) (hn : n < 281474976710656) (w : World) : Calls Tryd.prog 33 #[.string (sealB n b)] w fun e w' => e = .returned (.int .i64 n) ∧ Below w.heap.size w w' := by
  have hsz := sealB_size n b hb
  have hl6 : (256 : Nat) ^ 6 = 281474976710656 := by decide
  have e : (sealB n b).extract 0 6 = nb n 6 := SB.ext (by rw [SB.extract_front, sealB_list, nb_list, rawB, List.append_assoc, List.append_assoc, List.take_left' (by rw [be_length])])
  obtain ⟨K, hK⟩ := get_f (nb n 6)
  have hK := hK K (Nat.le_refl _)
  dsimp only at hK
  rw [get_nb (by decide) (by omega)] at hK
  refine (page_LSN.calls K (sealB n b) n w ?_).mono fun e w' ⟨h1, h2⟩ => ⟨h1, h2.below⟩
  unfold page_LSN.f
  rw [if_pos (by rw [hsz]; rfl), if_pos (by decide), if_pos (by rw [hsz]; decide), e, hK]
  rfl
theorem oneE {w : World} {b : Nat} {x : E} (h : Bx w b #[.string x.f0, .string x.f1, .bool x.f2] 43) : Kd.C k43 w (some ⟨b, 0, none⟩) 1 [x] := ⟨rfl, by decide, fun _ => ⟨_, rfl, fun j p hj => by
  obtain rfl : j = 0 := by
    rcases Nat.eq_zero_or_pos j with h | h
    · exact h
    · rw [List.getElem?_eq_none (by simp; omega)] at hj; cases hj
  obtain rfl : x = p := by injection hj
  exact ⟨[.string x.f0, .string x.f1, .bool x.f2], rfl, k43_mk w x, fun i u hu => by
    have h1 := h.cell i
    have h2 : Addr.add ⟨b, 0, none⟩ (0 * k43.sz + i) = ⟨b, i, none⟩ := by rw [Addr.add_lit]; simp
    rw [h2, h1]
    simpa using hu⟩⟩⟩
theorem Bx.set6 {w W : World} {b t : Nat} {a0 a1 a2 a3 a4 a5 v0 v1 v2 v3 v4 v5 : Value} (h : Bx w b #[a0, a1, a2, a3, a4, a5] t)
    (hW : (((((w.setCell ⟨b, 0, none⟩ v0).setCell ⟨b, 1, none⟩ v1).setCell ⟨b, 2, none⟩ v2).setCell ⟨b, 3, none⟩ v3).setCell ⟨b, 4, none⟩ v4).setCell ⟨b, 5, none⟩ v5 = W) : Bx W b #[v0, v1, v2, v3, v4, v5] t := by
  subst hW
  exact (((((h.set 0 v0).set 1 v1).set 2 v2).set 3 v3).set 4 v4).set 5 v5
theorem bel_set6 {B : Nat} {w0 w W : World} {b : Nat} {v0 v1 v2 v3 v4 v5 : Value} (h : Below B w0 w) (hb : B ≤ b)
    (hW : (((((w.setCell ⟨b, 0, none⟩ v0).setCell ⟨b, 1, none⟩ v1).setCell ⟨b, 2, none⟩ v2).setCell ⟨b, 3, none⟩ v3).setCell ⟨b, 4, none⟩ v4).setCell ⟨b, 5, none⟩ v5 = W) : Below B w0 W := by
  subst hW
  exact (((((h.setCell hb v0).setCell hb v1).setCell hb v2).setCell hb v3).setCell hb v4).setCell hb v5
theorem own_set6 {w W : World} {base b : Nat} {s : Value} {l : List E} {a0 a1 a2 a3 a4 a5 v0 v1 v2 v3 v4 v5 : Value} (h : OwE w base s l) (hb : Bx w b #[a0, a1, a2, a3, a4, a5] 29)
    (hW : (((((w.setCell ⟨b, 0, none⟩ v0).setCell ⟨b, 1, none⟩ v1).setCell ⟨b, 2, none⟩ v2).setCell ⟨b, 3, none⟩ v3).setCell ⟨b, 4, none⟩ v4).setCell ⟨b, 5, none⟩ v5 = W) : OwE W base s l := by
  subst hW
  exact own_set1 (own_set1 (own_set1 (own_set1 (own_set1 (own_set1 h hb 0 v0) (hb.set 0 v0) 1 v1) ((hb.set 0 v0).set 1 v1) 2 v2) (((hb.set 0 v0).set 1 v1).set 2 v2) 3 v3) ((((hb.set 0 v0).set 1 v1).set 2 v2).set 3 v3) 4 v4) (((((hb.set 0 v0).set 1 v1).set 2 v2).set 3 v3).set 4 v4) 5 v5
theorem results_cell {P : Program} {fn : Func} {tmps : Array Value} {w : World} {a b : Tmp} {t : TypeId} {ad : Addr} {x y : Value} (hres : fn.results = #[.cell a t, .tmp b]) (ha : tmps.getD a undef = .pointer (some ad)) (hl : (loadVar t ad).run P w = .ok x w) (hy : tmps.getD b undef = y) :
    (results fn tmps).run P w = .ok (.tuple #[x, y]) w := by
  have e : results fn tmps = (do let x ← (do loadVar t (← asAddr (tmps.getD a undef))); pure (.tuple #[x, tmps.getD b undef])) := by
    unfold results
    rw [hres]
    simp [Array.mapM_eq_foldlM]
  rw [e, ha, hy]
  generalize loadVar t = L at hl ⊢
  simp [hl, go_sem, asAddr]
theorem load_page {W : World} {b : Nat} {a0 a1 a2 a3 a4 a5 : Value} (h : Bx W b #[a0, a1, a2, a3, a4, a5] 29) : (loadVar 29 ⟨b, 0, none⟩).run Tryd.prog W = .ok (.agg #[a0, a1, a2, a3, a4, a5]) W := by
  obtain ⟨z0, z1, z2, z3, z4, z5⟩ := h.six
  simp [go_sem, z0, z1, z2, z3, z4, z5]
def PgX (w : World) (b n k : Nat) (s : Value) : Prop := Bx w b #[.int .i64 n, .int .i64 k, .int .i64 0, .int .i64 0, .string ⟨#[]⟩, s] 29
def padB (l : List E) : List UInt8 := List.replicate (496 - (7 + sizes l)) 0
def DecR (w : World) (base gp gc n k : Nat) (l : List E) (v : Value) (wr : World) : Prop :=
  ∃ (i : Nat) (s : Value) (R : ByteArray), i ≤ l.length ∧ v = .int .i64 i ∧ Bx wr gp #[.int .i64 n, .int .i64 k, .int .i64 0, .int .i64 0, .string ⟨#[]⟩, s] 29 ∧ OwE wr base s (l.take i) ∧ R.data.toList = rowsB (l.drop i) ++ padB l ∧ IsS82 w wr gc R true ∧
    Below w.heap.size w wr ∧ base ≤ wr.heap.size ∧ Bx wr w.heap.size #[.int .i64 0, .int .i64 0, .int .i64 0, .int .i64 0, .string ⟨#[]⟩, .slice none 0 0] 29
theorem ba (l : List UInt8) : (⟨l.toArray⟩ : ByteArray).data.toList = l := rfl
set_option maxHeartbeats 8000000 in
set_option maxRecDepth 100000 in
theorem decode_c {l : List E} (n k : Nat) (hn : n < 281474976710656) (hk : 1 ≤ k ∧ k ≤ 255) (hs : Small l) (hz : sizes l ≤ 489) {w : World} (hL : LaidT w) :
    Calls Tryd.prog 12 #[.string (sealB n (bodyB k l))] w fun e w' => ∃ s, e = .returned (.tuple #[pgV n k s, .int .i64 0]) ∧ OwE w' w.heap.size s l ∧ Below w.heap.size w w' := by
  have HLd := Lib.hid hL
  clear hL
  have hbl := bodyB_length k l hz
  have hsz := sealB_size n (bodyB k l) hbl
  have hkm : (UInt8.ofNat (k % 256)) ∈ (sealB n (bodyB k l)).data.toList := by
    rw [sealB_list, rawB, bodyB, headB]
    simp [be]
  have hkn : UInt8.ofNat (k % 256) ≠ 0 := by
    intro h
    have := congrArg UInt8.toNat h
    simp at this
    omega
  have hnt := fun w => nought_c (sealB n (bodyB k l)) (by rw [hsz]; decide) hkn hkm w
  have hwh := fun w (h : LaidT w) => whole_c n (bodyB k l) hbl w h
  have hbd := fun w => body_c n (bodyB k l) hbl w
  have hln := fun w => lsn_c n (bodyB k l) hbl hn w
  have HNT := Lib.hid hnt
  have HWH := Lib.hid hwh
  have HBD := Lib.hid hbd
  have HLN := Lib.hid hln
  clear hnt hwh hbd hln hkm hkn
  have HPG : Hid (∃ x : ByteArray, x = sealB n (bodyB k l)) := ⟨_, rfl⟩
  obtain ⟨pg, hpg⟩ := HPG.out
  rw [← hpg] at HNT HWH HBD HLN hsz ⊢
  have HP := Lib.hid hpg
  clear hpg HPG
  go_enter Tryd.func12, Tryd.ntmps12
  go_wp2_with fail
  have X1 := bx_new w #[.int .i64 0, .int .i64 0, .int .i64 0, .int .i64 0, .string ⟨#[]⟩, .slice none 0 0] 29
  have B1 : Below w.heap.size w (w.alloc (.cells #[.int .i64 0, .int .i64 0, .int .i64 0, .int .i64 0, .string ⟨#[]⟩, .slice none 0 0] 29)) := (Below.refl _ _).alloc (Nat.le_refl _) _
  generalize World.alloc w _ = w1 at X1 B1 ⊢
  refine (HNT.out w1).mono ?_
  rintro _ w2 ⟨rfl, hb2⟩
  have X2 := X1.below hb2 X1.lt
  have B2 := B1.trans (hb2.mono B1.size)
  clear X1 B1 hb2
  go_wp2_with fail
  refine (HWH.out w2 (laid_below HLd.out B2)).mono ?_
  rintro _ w3 ⟨rfl, hb3⟩
  have X3 := X2.below hb3 X2.lt
  have B3 := B2.trans (hb3.mono B2.size)
  clear X2 B2 hb3
  go_wp2_with fail
  refine (HBD.out w3).mono ?_
  rintro _ w4 ⟨rfl, hb4⟩
  have X4 := X3.below hb4 X3.lt
  have B4 := B3.trans (hb4.mono B3.size)
  clear X3 B3 hb4
  obtain ⟨R0, hR0⟩ : ∃ R0 : ByteArray, R0 = ⟨(bodyB k l).toArray⟩ := ⟨_, rfl⟩
  rw [← hR0]
  have HR0 : Hid (R0.data.toList = be k 1 ++ (be 0 1 ++ (be 0 2 ++ (be 0 1 ++ (be l.length 2 ++ (rowsB l ++ padB l)))))) := by
    unfold Hid
    rw [hR0, ba, bodyB, headB, padB]
    simp only [List.append_assoc]
  clear hR0
  as_aux_lemma =>
  go_wp2_with fail
  have hal : Below w4.heap.size w4 (w4.alloc (.cells #[.string R0, .bool true] 82)) := (Below.refl _ _).alloc (Nat.le_refl _) _
  have I5 : IsS82 w (w4.alloc (.cells #[.string R0, .bool true] 82)) w4.heap.size R0 true := ⟨heap_alloc_new w4 _, B4.size⟩
  have X5 := X4.below hal X4.lt
  have B5 := B4.trans (hal.mono B4.size)
  have hgc : ¬ w.heap.size = w4.heap.size := by have := X4.lt; omega
  generalize World.alloc w4 _ = w5 at I5 X5 B5 ⊢
  generalize w4.heap.size = gc at I5 hgc ⊢
  clear hal X4 B4
  as_aux_lemma =>
  refine (HLN.out w5).mono ?_
  rintro _ w6 ⟨rfl, hb6⟩
  have I6 := I5.below hb6
  have X6 := X5.below hb6 X5.lt
  have B6 := B5.trans (hb6.mono B5.size)
  clear I5 X5 B5 hb6
  go_wp2_with fail
  refine (num1_c ⟨(be 0 1 ++ (be 0 2 ++ (be 0 1 ++ (be l.length 2 ++ (rowsB l ++ padB l))))).toArray⟩ k (by omega) HR0.out I6 B6).mono ?_
  rintro _ w7 ⟨rfl, I7, B7, K7⟩
  have X7 := keepX X6 K7 hgc
  clear I6 X6 B6 K7
  go_wp2_with fail
  refine (num1_c ⟨(be 0 2 ++ (be 0 1 ++ (be l.length 2 ++ (rowsB l ++ padB l)))).toArray⟩ 0 (by decide) rfl I7 B7).mono ?_
  rintro _ w8 ⟨rfl, I8, B8, K8⟩
  have X8 := keepX X7 K8 hgc
  clear I7 X7 B7 K8
  go_wp2_with fail
  refine (num2_c ⟨(be 0 1 ++ (be l.length 2 ++ (rowsB l ++ padB l))).toArray⟩ 0 (by decide) rfl I8 B8).mono ?_
  rintro _ w9 ⟨rfl, I9, B9, K9⟩
  have X9 := keepX X8 K9 hgc
  clear I8 X8 B8 K9
  go_wp2_with fail
  have hal : Below w9.heap.size w9 (w9.alloc (.cells #[.int .i64 n, .int .i64 k, .int .i64 0, .int .i64 0, .string ⟨#[]⟩, .slice none 0 0] 29)) := (Below.refl _ _).alloc (Nat.le_refl _) _
  have P10 := bx_new w9 #[.int .i64 n, .int .i64 k, .int .i64 0, .int .i64 0, .string ⟨#[]⟩, .slice none 0 0] 29
  have I10 := I9.below hal
  have X10 := X9.below hal X9.lt
  have B10 := B9.trans (hal.mono B9.size)
  have hpc : ¬ w9.heap.size = gc := by have := I9.lt; omega
  have hpx : ¬ w9.heap.size = w.heap.size := by have := X9.lt; omega
  have hpw : w.heap.size ≤ w9.heap.size := B9.size
  generalize World.alloc w9 _ = wA at P10 I10 X10 B10 ⊢
  generalize w9.heap.size = gp at P10 hpc hpx hpw ⊢
  clear hal X9 B9 I9
  as_aux_lemma =>
  refine (num1_c ⟨(be l.length 2 ++ (rowsB l ++ padB l)).toArray⟩ 0 (by decide) rfl I10 B10).mono ?_
  rintro _ w11 ⟨rfl, I11, B11, K11⟩
  have X11 := keepX X10 K11 hgc
  have P11 := keepX P10 K11 hpc
  have hl1 := hs.1
  go_wp2_with fail
  refine (num2_c ⟨(rowsB l ++ padB l).toArray⟩ l.length (by omega) rfl I11 B11).mono ?_
  rintro _ w12 ⟨rfl, I12, B12, K12⟩
  have X12 := keepX X11 K12 hgc
  have P12 := keepX P11 K12 hpc
  go_wp2_with fail
  refine (take0_c I12 B12).mono ?_
  rintro _ w13 ⟨rfl, I13, B13, K13⟩
  have X13 := keepX X12 K13 hgc
  have P13 := keepX P12 K13 hpc
  have hA13 : wA.heap.size ≤ w13.heap.size := Nat.le_trans (Nat.le_trans K11.1 K12.1) K13.1
  have hgpA : gp < wA.heap.size := P10.lt
  have hgcA : gc < wA.heap.size := I10.lt
  have hwA : w.heap.size < wA.heap.size := X10.lt
  have hwgc : w.heap.size ≤ gc := I10.ge
  clear I10 X10 B10 P10 I11 X11 B11 P11 K11 I12 X12 B12 P12 K12 K13
  as_aux_lemma =>
  obtain ⟨f0, f1, f2, f3, f4, f5⟩ := P13.six_free
  obtain ⟨c0, c1, c2, c3, c4, c5⟩ := P13.six
  go_wp2_with fail
  have P14 := P13.set 4 (.string ⟨#[]⟩)
  have I14 := I13.far (p := ⟨gp, 4, none⟩) (fun h => hpc h.symm) (.string ⟨#[]⟩)
  have X14 := X13.far (p := ⟨gp, 4, none⟩) (fun h => hpx h.symm) (.string ⟨#[]⟩)
  have B14 := B13.setCell (p := ⟨gp, 4, none⟩) hpw (.string ⟨#[]⟩)
  have hA14 : wA.heap.size ≤ (w13.setCell ⟨gp, 4, none⟩ (.string ⟨#[]⟩)).heap.size := by simpa using hA13
  generalize World.setCell w13 _ _ = w14 at P14 I14 X14 B14 hA14 ⊢
  clear f0 f1 f2 f3 f4 f5 c0 c1 c2 c3 c4 c5 P13 I13 X13 B13 hA13
  go_loopw [8] (fun v wr => DecR w wA.heap.size gp gc n k l v wr) (fun v _ => l.length - (intOf v).toNat)
  case atStart => exact ⟨0, _, _, Nat.zero_le _, rfl, P14, Kd.R_nil _ _ _ _ _, rfl, I14, B14, hA14, X14⟩
  case round =>
    clear P14 I14 X14 B14 hA14
    obtain ⟨i, sv, R, hi, rfl, Pr, hO, hR, Ir, Br, hAr, Xr⟩ := hrel
    obtain ⟨M, hM⟩ : ∃ M, M = l.take i := ⟨_, rfl⟩
    rw [← hM] at hO
    have HMM := Lib.hid hM
    clear hM
    obtain ⟨Aa, ca, rfl, hca, hcm, _⟩ := hO.rd
    by_cases hlt : i < l.length
    · have hlt' : (i : Int) < (l.length : Int) := by omega
      obtain ⟨e, he⟩ : ∃ y, l[i]? = some y := ⟨l[i], by simp [hlt]⟩
      have hsm := hs.2 e (List.mem_of_getElem? he)
      have HRe : Hid (R.data.toList = be (mk e.f2) 1 ++ (be e.f0.size 1 ++ (be e.f1.size 1 ++ (e.f0.data.toList ++ (e.f1.data.toList ++ (rowsB (l.drop (i + 1)) ++ padB l)))))) := by
        unfold Hid
        rw [hR, drop_at he]
        simp [rowsB, encE]
      have HE := Lib.hid he
      have HO := Lib.hid hO
      clear he hR hO
      obtain ⟨d0, d1, d2, d3⟩ := cutC Ir
      as_aux_lemma =>
      go_wp2_with fail
      clear d0 d1 d2 d3
      obtain ⟨m, hm⟩ : ∃ m, m = mk e.f2 := ⟨_, rfl⟩
      have hm2 : m < 256 := by rw [hm]; unfold mk; split <;> decide
      rw [← hm] at HRe
      have HM := Lib.hid hm
      clear hm
      refine (num1_c ⟨(be e.f0.size 1 ++ (be e.f1.size 1 ++ (e.f0.data.toList ++ (e.f1.data.toList ++ (rowsB (l.drop (i + 1)) ++ padB l))))).toArray⟩ m hm2 HRe.out Ir Br).mono ?_
      rintro _ wa ⟨rfl, Ia, Ba, Ka⟩
      go_wp2_with fail
      refine (num1_c ⟨(be e.f1.size 1 ++ (e.f0.data.toList ++ (e.f1.data.toList ++ (rowsB (l.drop (i + 1)) ++ padB l)))).toArray⟩ e.f0.size (by omega) rfl Ia Ba).mono ?_
      rintro _ wb ⟨rfl, Ib, Bb, Kb⟩
      go_wp2_with fail
      refine (num1_c ⟨(e.f0.data.toList ++ (e.f1.data.toList ++ (rowsB (l.drop (i + 1)) ++ padB l))).toArray⟩ e.f1.size (by omega) rfl Ib Bb).mono ?_
      rintro _ wc ⟨rfl, Ic, Bc, Kc⟩
      go_wp2_with fail
      refine (take_c ⟨(e.f1.data.toList ++ (rowsB (l.drop (i + 1)) ++ padB l)).toArray⟩ e.f0 rfl Ic Bc).mono ?_
      rintro _ wd ⟨rfl, Id, Bd, Kd⟩
      go_wp2_with fail
      refine (take_c ⟨(rowsB (l.drop (i + 1)) ++ padB l).toArray⟩ e.f1 rfl Id Bd).mono ?_
      rintro _ we ⟨rfl, Ie, Be, Ke⟩
      have kr : Or ((none : Option Nat) = none) (∃ b, (none : Option Nat) = some b ∧ wr.heap.size ≤ b) := Or.inl rfl
      have K := (((Ka.trans Kb (Or.inl rfl)).trans Kc (Or.inl rfl)).trans Kd (Or.inl rfl)).trans Ke (Or.inl rfl)
      have Pe := keepX Pr K hpc
      have Xe := keepX Xr K hgc
      have HOe := Lib.hid (keepE HO.out Ir K)
      have hAe : wA.heap.size ≤ we.heap.size := Nat.le_trans hAr K.1
      have hq : (((m : Nat) : Int) == 1) = e.f2 := by
        rw [HM.out]
        unfold mk
        cases e.f2 <;> rfl
      have hq2 : ((m : Nat) : Int) ≤ 1 := by
        rw [HM.out]
        unfold mk
        split <;> decide
      obtain ⟨R2, hR2⟩ : ∃ R2 : ByteArray, R2 = ⟨(rowsB (l.drop (i + 1)) ++ padB l).toArray⟩ := ⟨_, rfl⟩
      rw [← hR2] at Ie
      have HR2 : Hid (R2.data.toList = rowsB (l.drop (i + 1)) ++ padB l) := by unfold Hid; rw [hR2]
      clear hR2 Ia Ba Ka Ib Bb Kb Ic Bc Kc Id Bd Kd Ke K kr Pr Xr Ir Br HO HRe hAr
      as_aux_lemma =>
      go_upto_region 18 with (fail)
      have E1 := bx_new we #[.string e.f0, .string e.f1, .bool e.f2] 43
      have hbf : Below we.heap.size we (we.alloc (.cells #[.string e.f0, .string e.f1, .bool e.f2] 43)) := (Below.refl _ _).alloc (Nat.le_refl _) _
      generalize World.alloc we _ = wf at E1 hbf ⊢
      have hbg : Below wf.heap.size wf (wf.alloc (.cells #[.string e.f0, .string e.f1, .bool e.f2] 43)) := (Below.refl _ _).alloc (Nat.le_refl _) _
      have E2 := bx_new wf #[.string e.f0, .string e.f1, .bool e.f2] 43
      obtain ⟨e0, e1, e2⟩ := E1.three
      have Pf := Pe.below hbf Pe.lt
      have Pg := Pf.below hbg Pf.lt
      obtain ⟨p0, p1, p2, p3, p4, p5⟩ := Pf.six
      have hbh : Below we.heap.size we (wf.alloc (.cells #[.string e.f0, .string e.f1, .bool e.f2] 43)) := hbf.trans (hbg.mono hbf.size)
      have HOg := Lib.hid (Kd.R_below HOe.out hbh)
      have HRn := Lib.hid (oneE E2)
      have Ig := Ie.below hbh
      have Xg := Xe.below hbh Xe.lt
      have Bg := Be.trans (hbh.mono Be.size)
      have HLZ : Hid (wA.heap.size ≤ (wf.alloc (.cells #[.string e.f0, .string e.f1, .bool e.f2] 43)).heap.size) := Nat.le_trans hAe hbh.size
      have hbx : ∃ wg, wg = wf.alloc (.cells #[.string e.f0, .string e.f1, .bool e.f2] 43) := ⟨_, rfl⟩
      obtain ⟨M2, hM2⟩ : ∃ M2, M2 = l.take (i + 1) := ⟨_, rfl⟩
      have HM2 := Lib.hid hM2
      have HTK : Hid (M ++ [e] = M2) := by
        unfold Hid
        obtain ⟨hl, he⟩ := List.getElem?_eq_some_iff.1 HE.out
        rw [HMM.out, hM2, List.take_succ_eq_append_getElem hl, he]
      have HLK : Hid ((M.length + 1) * 40 ≤ 140737488355328) := by unfold Hid; rw [HMM.out, List.length_take]; omega
      clear hM2 hbx hbf hbg hbh Pe Pf Ie Xe Be
      go_upto_region 19 with (first | (at_builtin; refine Kd.R_append_rows k43 (w0 := _) (W := _) wA.heap.size rfl (.tmp 82) (.tmp 84) 27 43 _ 40 rfl Tryd.underlying27 infoE rfl (by decide) (by omega) (.slice Aa M.length ca) _ [e] (some ⟨wf.heap.size, 0, none⟩) 1 _ (fun _ => True) (fun _ => False) rfl rfl HOg.out HRn.out (fun x cs h => KE_M _ _ _ h) (fun _ h => h.elim) (fun _ _ => trivial) (Below.refl _ _) HLZ.out HLK.out ?_; intro v4 w4' hO4 hb4 hg4 ha4; clear hg4 ha4; rw [HTK.out] at hO4; have X4 := Pg.below hb4 hgpA; obtain ⟨r0, r1, r2, r3, r4, r5⟩ := X4.six; obtain ⟨k0, k1, k2, k3, k4, k5⟩ := X4.six_free; obtain ⟨A4, c4, rfl, _⟩ := OwE.rd hO4) | fail)
      have I4 : IsS82 w w4' gc R2 true := ⟨(hb4.block gc hgcA).trans Ig.1, Ig.2⟩
      have Xg4 := Xg.below hb4 hwA
      have B4 := Bg.trans (hb4.mono (Nat.le_of_lt hwA))
      have hA4 : wA.heap.size ≤ w4'.heap.size := Nat.le_trans HLZ.out hb4.size
      have P5 := X4.set 5 (.slice A4 M2.length c4)
      have HO5 := Lib.hid (own_set1 hO4 X4 5 (.slice A4 M2.length c4))
      have I5 := I4.far (p := ⟨gp, 5, none⟩) (fun h => hpc h.symm) (.slice A4 M2.length c4)
      have X5 := Xg4.far (p := ⟨gp, 5, none⟩) (fun h => hpx h.symm) (.slice A4 M2.length c4)
      have B5 := B4.setCell (p := ⟨gp, 5, none⟩) hpw (.slice A4 M2.length c4)
      have hA5 : wA.heap.size ≤ (w4'.setCell ⟨gp, 5, none⟩ (.slice A4 M2.length c4)).heap.size := by simpa using hA4
      generalize World.setCell w4' _ _ = w5' at P5 HO5 I5 X5 B5 hA5 ⊢
      clear r0 r1 r2 r3 r4 r5 k0 k1 k2 k3 k4 k5 X4 I4 Xg4 B4 hA4 hO4 hb4 e0 e1 e2 E1 E2 p0 p1 p2 p3 p4 p5 Pg HOg HRn Ig Xg Bg HLZ HLK
      as_aux_lemma =>
      obtain ⟨d0, d1, d2, d3⟩ := cutC I5
      go_wp2_with fail
      have I6 : IsS82 w (w5'.setCell ⟨gc, 1, none⟩ (.bool true)) gc R2 true := ⟨blk_set I5.1 1 (.bool true), I5.2⟩
      have P6 := P5.far (p := ⟨gc, 1, none⟩) hpc (.bool true)
      have X6 := X5.far (p := ⟨gc, 1, none⟩) hgc (.bool true)
      have B6 := B5.setCell (p := ⟨gc, 1, none⟩) hwgc (.bool true)
      have HO6 : Hid (OwE (w5'.setCell ⟨gc, 1, none⟩ (.bool true)) wA.heap.size (.slice A4 M2.length c4) M2) := Kd.R_set HO5.out I5.1 (by decide) 1 (.bool true)
      have hA6 : wA.heap.size ≤ (w5'.setCell ⟨gc, 1, none⟩ (.bool true)).heap.size := by simpa using hA5
      clear d0 d1 d2 d3
      go_roundw
      case rel => exact ⟨i + 1, _, R2, hlt, by go_num, P6, (by rw [← HM2.out]; exact HO6.out), HR2.out, I6, B6, hA6, X6⟩
      case measure => exact rt_measure hlt (e_small hi hl1)
    · have hlt' : ¬ (i : Int) < (l.length : Int) := by omega
      have hil : i = l.length := by omega
      have hML : M = l := by rw [HMM.out, hil, List.take_length]
      have HML := Lib.hid hML
      have HO := Lib.hid hO
      have HRE : Hid (RdE wr (.slice Aa M.length ca) l) := by unfold Hid; have := hO.rd; rw [hML] at this; rw [hML]; exact this
      clear hML hO hR hil
      obtain ⟨d0, d1, d2, d3⟩ := cutC Ir
      obtain ⟨c0, c1, c2, c3, c4, c5⟩ := Pr.six
      as_aux_lemma =>
      go_wp2_with fail
      refine (encode_c (l := l) n k hn hk hs hz HRE.out (laid_below HLd.out Br)).mono ?_
      rw [← HP.out]
      rintro _ wz ⟨rfl, hbz⟩
      clear d0 d1 d2 d3 c0 c1 c2 c3 c4 c5
      have Pz := Pr.below hbz Pr.lt
      have Xz := Xr.below hbz Xr.lt
      have Iz := Ir.below hbz
      have Bz := Br.trans (hbz.mono Br.size)
      have HOz := Lib.hid (Kd.R_below HO.out hbz)
      have hAz : wA.heap.size ≤ wz.heap.size := Nat.le_trans hAr hbz.size
      clear Pr Xr Ir Br HO HRE hbz hAr
      as_aux_lemma =>
      obtain ⟨d0, d1, d2, d3⟩ := cutC Iz
      obtain ⟨c0, c1, c2, c3, c4, c5⟩ := Pz.six
      obtain ⟨x0, x1, x2, x3, x4, x5⟩ := Xz.six
      obtain ⟨y0, y1, y2, y3, y4, y5⟩ := Xz.six_free
      go_wp2_with fail
      generalize hW : World.setCell (World.setCell (World.setCell (World.setCell (World.setCell (World.setCell wz _ _) _ _) _ _) _ _) _ _) _ _ = W9
      have X7 := Bx.set6 Xz hW
      have B7 := bel_set6 Bz (Nat.le_refl _) hW
      have O5 := own_set6 HOz.out Xz hW
      clear hW
      refine bodyPost_ret (v := .tuple #[.agg #[.int .i64 n, .int .i64 k, .int .i64 0, .int .i64 0, .string ⟨#[]⟩, .slice Aa M.length ca], .int .i64 0]) (results_cell Tryd.results12 rfl (load_page X7) rfl) rfl ?_
      exact ⟨.slice Aa M.length ca, rfl, by rw [HML.out] at O5; rw [HML.out]; exact Kd.R_lower O5 (Nat.le_of_lt hwA), B7⟩
end TP
end Go.Proofs.YtfaabbimbjegmaaDoor

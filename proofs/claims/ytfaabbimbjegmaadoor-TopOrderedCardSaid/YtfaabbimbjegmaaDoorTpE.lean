/-
  The contract of Encode.
-/
import Derived.Test.YtfaabbimbjegmaaDoorTpB
set_option linter.unusedVariables false
set_option linter.unusedSimpArgs false
namespace Go.Proofs.YtfaabbimbjegmaaDoor
open Go Go.RowKit Go.Proofs.YtfaabbimbjegmaaDoor.PA Go.Proofs.YtfaabbimbjegmaaDoor.SB Go.Proofs.YtfaabbimbjegmaaDoorW.PrintWords
namespace TP
attribute [local go_sem] nb_size
def mk (b : Bool) : Nat := if b then 1 else 0
def encE (e : E) : List UInt8 := be (mk e.f2) 1 ++ be e.f0.size 1 ++ be e.f1.size 1 ++ e.f0.data.toList ++ e.f1.data.toList
theorem encE_length (e : E) : (encE e).length = esz e := by
  unfold encE esz
  simp only [List.length_append, be_length, SB.sizeL]
def headB (k n : Nat) : List UInt8 := be k 1 ++ be 0 1 ++ be 0 2 ++ be 0 1 ++ be n 2
theorem headB_length (k n : Nat) : (headB k n).length = 7 := by simp [headB, be_length]
def rowsB (l : List E) : List UInt8 := l.flatMap encE
theorem rowsB_length : ∀ l : List E, (rowsB l).length = sizes l
  | [] => rfl
  | e :: l => by
    have := rowsB_length l
    simp only [rowsB, List.flatMap_cons, List.length_append] at this ⊢
    rw [this, encE_length]
    rfl
/-- A page's body. -/
def bodyB (k : Nat) (l : List E) : List UInt8 := headB k l.length ++ rowsB l ++ List.replicate (496 - (7 + sizes l)) 0
theorem bodyB_length (k : Nat) (l : List E) (h : sizes l ≤ 489) : (bodyB k l).length = 496 := by
  unfold bodyB
  rw [List.length_append, List.length_append, headB_length, rowsB_length, List.length_replicate]
  omega
def rawB (n : Nat) (b : List UInt8) : List UInt8 := be n 6 ++ b ++ be n 6
/-- A page's bytes, of its number and its body. -/
def sealB (n : Nat) (b : List UInt8) : ByteArray := ⟨(rawB n b ++ markL (rawB n b)).toArray⟩
theorem sealB_list (n : Nat) (b : List UInt8) : (sealB n b).data.toList = rawB n b ++ markL (rawB n b) := by simp [sealB]
theorem sealB_size (n : Nat) (b : List UInt8) (h : b.length = 496) : (sealB n b).size = 512 := by
  rw [← SB.sizeL, sealB_list, List.length_append, markL_length, rawB, List.length_append, List.length_append, be_length, h]
theorem build_c (n : Nat) (b : ByteArray) (hb : b.size = 496) (hn : n < 281474976710656) (w : World) (hL : LaidT w) : Calls Tryd.prog 29 #[.int .i64 n, .string b] w fun e w' => e = .returned (.string (sealB n b.data.toList)) ∧ Below w.heap.size w w' := by
  have hl6 : (256 : Nat) ^ 6 = 281474976710656 := by decide
  obtain ⟨t, ⟨K, hK⟩, ht⟩ := put_f (n : Int) 6 (by omega)
  have e : t = nb n 6 := SB.ext (by rw [ht, nb_list]; unfold putL; rw [if_pos ⟨by omega, by omega, by omega, by simp; omega⟩]; simp)
  subst e
  obtain ⟨u, hu, hul, hus⟩ := seal_f (nb n 6 ++ b ++ nb n 6) (by rw [ByteArray.size_append, ByteArray.size_append, nb_size, hb]; decide)
  have hu2 : u = sealB n b.data.toList := SB.ext (by rw [hul, sealB_list, SB.dataAppend, SB.dataAppend, nb_list]; rfl)
  subst hu2
  refine page_Build.calls (K + 1) n b _ w ?_ hL
  unfold page_Build.f page_within.f
  rw [if_pos (by omega), decide_eq_true (by omega)]
  simp only [Option.bind_some, if_true]
  have h0 : ((b.size : Int) != 496) = false := by rw [hb]; rfl
  have hK0 := hK K (Nat.le_refl _)
  dsimp only at hK0
  rw [h0, page_Build.j0, if_neg (by decide), hK0]
  simp only [Option.bind_some]
  rw [if_pos (by rw [nb_size, hb]; decide), if_pos (by rw [ByteArray.size_append, nb_size, hb]; decide), hu]
  simp only [Option.bind_some]
theorem put1_0 (w : World) : Calls Tryd.prog 20 #[.int .i64 0, .int .i64 1] w fun e w' => e = .returned (.string (nb 0 1)) ∧ Below w.heap.size w w' := put_c 0 1 w (by decide) (by decide) (by decide)
theorem put1_1 (w : World) : Calls Tryd.prog 20 #[.int .i64 1, .int .i64 1] w fun e w' => e = .returned (.string (nb 1 1)) ∧ Below w.heap.size w w' := put_c 1 1 w (by decide) (by decide) (by decide)
theorem put2_0 (w : World) : Calls Tryd.prog 20 #[.int .i64 0, .int .i64 2] w fun e w' => e = .returned (.string (nb 0 2)) ∧ Below w.heap.size w w' := put_c 0 2 w (by decide) (by decide) (by decide)
variable {w : World} {s : Value}
theorem rowsB_le : ∀ (l : List E) (i : Nat), (rowsB (l.take i)).length ≤ sizes l
  | [], i => by simp [rowsB]
  | e :: l, 0 => by simp [rowsB]
  | e :: l, i + 1 => by
    have := rowsB_le l i
    simp only [rowsB, List.take_succ_cons, List.flatMap_cons, List.length_append, encE_length, sizes] at this ⊢
    omega
theorem rows_next {l : List E} {i : Nat} {e : E} (h : l[i]? = some e) : rowsB (l.take (i + 1)) = rowsB (l.take i) ++ encE e := by
  obtain ⟨hl, he⟩ := List.getElem?_eq_some_iff.1 h
  rw [List.take_succ_eq_append_getElem hl, he]
  simp [rowsB]
theorem e_small {i n : Nat} (h : i ≤ n) (h2 : n ≤ 1000) : i ≤ 10000000 := by omega
theorem rep_c (c : Nat) (hc : c ≤ 1000) (w : World) : Calls Tryd.prog 27 #[.string ⟨#[0]⟩, .int .i64 c] w fun e w' => e = .returned (.string ⟨(List.replicate c (0 : UInt8)).toArray⟩) ∧ Below w.heap.size w w' := by
  have h := Tryd.strings_Repeat ⟨#[0]⟩ c w (by omega) (by show 1 * c ≤ _; omega)
  have e : ∀ c, Lib.repeatL [(0 : UInt8)] c = List.replicate c 0 := by
    intro c
    induction c with
    | zero => rfl
    | succ c ih => rw [Lib.repeatL, ih]; rfl
  rw [show (⟨#[0]⟩ : ByteArray).data.toList = [0] from rfl, e c] at h
  exact h
theorem bldF_below {T e : TypeId} {B b : Nat} {bs : List Value} {w w' : World} (h : Lib.IsBuilderF T e B b bs w) (hb : Below w.heap.size w w') : Lib.IsBuilderF T e B b bs w' := by
  have key : ∀ p, Lib.BuilderAtF T e B b p bs w → Lib.BuilderAtF T e B b p bs w' := by
    intro p h
    have hlt := h.lt
    obtain ⟨hB, v, hk, ⟨hl, hrow⟩, hne⟩ := h
    refine ⟨hB, v, (hb.block b hlt).trans hk, ⟨hl, ?_⟩, hne⟩
    rcases hrow with h | ⟨g, cap, cur, fz, e1, e2, e3, e4⟩
    · exact Or.inl h
    · exact Or.inr ⟨g, cap, cur, fz, e1, e2, (hb.block g (Array.getElem?_eq_some_iff.1 e3).1).trans e3, e4⟩
  rcases h with h | h
  · exact Or.inl (key _ h)
  · exact Or.inr (key _ h)
def EncR (B b k : Nat) (l : List E) (w0 : World) (v : Value) (wr : World) : Prop :=
  ∃ i : Nat, i ≤ l.length ∧ v = .int .i64 i ∧ Below B w0 wr ∧ Lib.IsBuilder 70 5 B b (Lib.byteCells (headB k l.length ++ rowsB (l.take i))) wr ∧ B ≤ wr.heap.size
set_option maxHeartbeats 8000000 in
set_option maxRecDepth 100000 in
theorem encode_c {l : List E} (n k : Nat) (hn : n < 281474976710656) (hk : 1 ≤ k ∧ k ≤ 255) (hs : Small l) (hz : sizes l ≤ 489) (hr : RdE w s l) (hL : LaidT w) :
    Calls Tryd.prog 11 #[pgV n k s] w fun e w' => e = .returned (.tuple #[.string (sealB n (bodyB k l)), .int .i64 0]) ∧ Below w.heap.size w w' := by
  have HR := Lib.hid hr
  have HLd := Lib.hid hL
  clear hL
  obtain ⟨A, c, rfl, hc, hm, hC⟩ := hr
  have X0 := bx_new w #[.int .i64 n, .int .i64 k, .int .i64 0, .int .i64 0, .string ⟨#[]⟩, .slice A l.length c] 29
  have B0 : Below w.heap.size w (w.alloc (.cells #[.int .i64 n, .int .i64 k, .int .i64 0, .int .i64 0, .string ⟨#[]⟩, .slice A l.length c] 29)) := (Below.refl w.heap.size w).alloc (Nat.le_refl _) _
  unfold pgV
  go_enter Tryd.func11, Tryd.ntmps11
  obtain ⟨c0, c1, c2, c3, c4, c5⟩ := X0.six
  go_wp2_with fail
  refine (right_c n k hn hk hs (HR.out.below B0)).mono ?_
  rintro _ w1 ⟨rfl, hb1⟩
  have X1 := X0.below hb1 X0.lt
  have B1 := B0.trans (hb1.mono B0.size)
  clear c0 c1 c2 c3 c4 c5 X0 B0 hb1
  as_aux_lemma =>
  obtain ⟨c0, c1, c2, c3, c4, c5⟩ := X1.six
  go_wp2_with fail
  refine (free_c n k hs (HR.out.below B1)).mono ?_
  rintro _ w2 ⟨rfl, hb2⟩
  have X2 := X1.below hb2 X1.lt
  have B2 := B1.trans (hb2.mono B1.size)
  have hfr : ¬ (489 : Int) - (sizes l : Int) < 0 := by omega
  have hfr2 : ¬ (489 : Int) < (sizes l : Int) := by omega
  clear c0 c1 c2 c3 c4 c5 X1 B1 hb2
  as_aux_lemma =>
  go_upto_region 6 with (fail)
  have hbl := Lib.fresh_isBuilder 70 5 w2
  have hal : Below w2.heap.size w2 (w2.alloc (.cells #[.pointer none, .slice none 0 0] 70)) := (Below.refl _ _).alloc (Nat.le_refl _) _
  have X3 := X2.below hal X2.lt
  have B3 := B2.trans (hal.mono B2.size)
  have hBw : w2.heap.size ≤ (w2.alloc (.cells #[.pointer none, .slice none 0 0] 70)).heap.size := by simp
  have hwl : w.heap.size < w2.heap.size := X2.lt
  generalize World.alloc w2 _ = w3 at hbl X3 B3 hBw ⊢
  clear hal X2 hfr hfr2
  have hl1 := hs.1
  have K1 := fun (wv : World) (hwv : Below w3.heap.size w3 wv) => put1_c k wv (by omega)
  have K2 := fun (wv : World) (hwv : Below w3.heap.size w3 wv) => put1_0 wv
  have K3 := fun (wv : World) (hwv : Below w3.heap.size w3 wv) => put2_0 wv
  have K4 := fun (wv : World) (hwv : Below w3.heap.size w3 wv) => put2_c l.length wv (by omega)
  refine QT.wp_region_quiet_tail (C := fun w' => Below w3.heap.size w3 w') 24 (by kernel_rfl) (by kernel_rfl) (Below.refl _ _).drew ?_
  simp only [List.take_succ_cons, List.take_zero, List.drop_succ_cons, List.drop_zero]
  repeat (first
    | go_big_quiet_skip
    | (go_big_quiet_want
       refine quiet_of (v := ?_) (fun wv hwv => ?_) ?_
       rotate_left
       · obtain ⟨c0, c1, c2, c3, c4, c5⟩ := (X3.below hwv X3.lt).six
         go_simp
         first | done | ((with_reducible refine (K1 wv hwv).mono ?_); rintro _ _ ⟨rfl, hb⟩; (refine ⟨?_, hwv.trans (hb.mono hwv.size)⟩; rfl)) | ((with_reducible refine (K2 wv hwv).mono ?_); rintro _ _ ⟨rfl, hb⟩; (refine ⟨?_, hwv.trans (hb.mono hwv.size)⟩; rfl)) | ((with_reducible refine (K3 wv hwv).mono ?_); rintro _ _ ⟨rfl, hb⟩; (refine ⟨?_, hwv.trans (hb.mono hwv.size)⟩; rfl)) | ((with_reducible refine (K4 wv hwv).mono ?_); rintro _ _ ⟨rfl, hb⟩; (refine ⟨?_, hwv.trans (hb.mono hwv.size)⟩; rfl)) | rfl | exact ⟨rfl, rfl⟩
       (try simp only [Act.put, List.setIfInBounds_toArray, List.set_cons_zero, List.set_cons_succ])
       go_big_quiet_on))
  refine wpQuiet_nil ?_
  intro w4 hw4
  have hhd : (nb k 1 ++ nb 0 1 ++ nb 0 2 ++ nb 0 1 ++ nb l.length 2 ++ (⟨#[]⟩ : ByteArray)).data.toList = headB k l.length := by simp [SB.dataAppend, nb_list, headB]
  generalize nb k 1 ++ nb 0 1 ++ nb 0 2 ++ nb 0 1 ++ nb l.length 2 ++ (⟨#[]⟩ : ByteArray) = hd at hhd ⊢
  have hhs : hd.size = 7 := by rw [← SB.sizeL, hhd, headB_length]
  have HHD := Lib.hid hhd
  go_wp2_with fail
  refine (Tryd.bWrite w2.heap.size w2.heap.size _ hd w4 (bld_below hbl hw4) (by rw [hhs]; decide) (Nat.le_trans hBw hw4.size)).mono ?_
  rintro _ w5 ⟨rfl, hbl5, hb5⟩
  have X5 := (X3.below hw4 X3.lt).below hb5 hwl
  have B5 : Below w.heap.size w w5 := (B3.trans (hw4.mono B3.size)).trans (hb5.mono B2.size)
  have hBw5 : w2.heap.size ≤ w5.heap.size := Nat.le_trans (Nat.le_trans hBw hw4.size) hb5.size
  have hbl5' : Lib.IsBuilder 70 5 w2.heap.size w2.heap.size (Lib.byteCells (headB k l.length ++ rowsB (l.take 0))) w5 := Or.inr (by
    rw [List.take_zero, show rowsB [] = [] from rfl, List.append_nil, ← HHD.out]
    exact hbl5)
  have hB2 : w.heap.size ≤ w2.heap.size := B2.size
  generalize w2.heap.size = B at hbl5' hBw5 hwl hB2 ⊢
  clear K1 K2 K3 K4 hbl X3 B3 hw4 hhd hbl5 hb5 hBw HHD hhs B2
  as_aux_lemma =>
  obtain ⟨c0, c1, c2, c3, c4, c5⟩ := X5.six
  go_wp2_with fail
  clear c0 c1 c2 c3 c4 c5
  go_loopw [44] (fun v wr => EncR B B k l w5 v wr) (fun v _ => l.length - (intOf v).toNat)
  case atStart => exact ⟨0, Nat.zero_le _, rfl, Below.refl _ _, hbl5', hBw5⟩
  case round =>
    obtain ⟨i, hi, rfl, hB, hI, hBr⟩ := hrel
    clear hbl5'
    by_cases hlt : i < l.length
    · have hlt' : (i : Int) < (l.length : Int) := by omega
      have hi0 : (0 : Int) ≤ (i : Int) := by omega
      obtain ⟨e, he⟩ : ∃ y, l[i]? = some y := ⟨l[i], by simp [hlt]⟩
      obtain ⟨ad, hA, a0, a1, a2⟩ := at_T43 (Kd.C_below hC (B5.trans (hB.mono hB2))) (i : Int) hi0 hlt'
      rw [rdE he, Int.toNat_natCast] at a0 a1 a2
      have hsm := hs.2 e (List.mem_of_getElem? he)
      have HE := Lib.hid he
      have hrl := rowsB_le l i
      subst hA
      clear he
      go_upto_region 11 with (fail)
      have X := bx_new wr #[.string e.f0, .string e.f1, .bool e.f2] 43
      have hb6 : Below wr.heap.size wr (wr.alloc (.cells #[.string e.f0, .string e.f1, .bool e.f2] 43)) := (Below.refl _ _).alloc (Nat.le_refl _) _
      generalize World.alloc wr _ = w6 at X hb6 ⊢
      clear a0 a1 a2 X5
      cases hm2 : e.f2
      · rw [hm2] at X
        have HM := Lib.hid hm2
        clear hm2
        obtain ⟨c0, c1, c2⟩ := X.three
        go_upto_region 13 with (fail)
        clear c0 c1 c2
        have K1 := fun (wv : World) (hwv : Below w6.heap.size w6 wv) => put1_0 wv
        have K2 := fun (wv : World) (hwv : Below w6.heap.size w6 wv) => put1_c e.f0.size wv (by omega)
        have K3 := fun (wv : World) (hwv : Below w6.heap.size w6 wv) => put1_c e.f1.size wv (by omega)
        have z1 : ¬ 9223372036854775807 < 1 + 1 + 1 + e.f0.size := by omega
        have z2 : ¬ 9223372036854775807 < 1 + 1 + 1 + e.f0.size + e.f1.size := by omega
        have z3 : ¬ 9223372036854775807 < 3 + e.f0.size := by omega
        have z4 : ¬ 9223372036854775807 < 3 + e.f0.size + e.f1.size := by omega
        have z5 : ¬ 9223372036854775807 < 1 + (1 + (1 + e.f0.size)) := by omega
        have HSM := Lib.hid hsm
        have HRL := Lib.hid hrl
        as_aux_lemma =>
        refine QT.wp_region_quiet_tail (C := fun w' => Below w6.heap.size w6 w') 18 (by kernel_rfl) (by kernel_rfl) (Below.refl _ _).drew ?_
        simp only [List.take_succ_cons, List.take_zero, List.drop_succ_cons, List.drop_zero]
        repeat (first
          | go_big_quiet_skip
          | (go_big_quiet_want
             refine quiet_of (v := ?_) (fun wv hwv => ?_) ?_
             rotate_left
             · obtain ⟨c0, c1, c2⟩ := (X.below hwv X.lt).three
               go_simp
               first | done | ((with_reducible refine (K1 wv hwv).mono ?_); rintro _ _ ⟨rfl, hb⟩; (refine ⟨?_, hwv.trans (hb.mono hwv.size)⟩; rfl)) | ((with_reducible refine (K2 wv hwv).mono ?_); rintro _ _ ⟨rfl, hb⟩; (refine ⟨?_, hwv.trans (hb.mono hwv.size)⟩; rfl)) | ((with_reducible refine (K3 wv hwv).mono ?_); rintro _ _ ⟨rfl, hb⟩; (refine ⟨?_, hwv.trans (hb.mono hwv.size)⟩; rfl)) | ((with_reducible refine (K4 wv hwv).mono ?_); rintro _ _ ⟨rfl, hb⟩; (refine ⟨?_, hwv.trans (hb.mono hwv.size)⟩; rfl)) | rfl | exact ⟨rfl, rfl⟩
             (try simp only [Act.put, List.setIfInBounds_toArray, List.set_cons_zero, List.set_cons_succ])
             go_big_quiet_on))
        refine wpQuiet_nil ?_
        clear z1 z2 z3 z4 z5 K1 K2 K3
        intro w7 hw7
        have hbz : Below wr.heap.size wr w7 := hb6.trans (hw7.mono hb6.size)
        have hstr : Hid ((nb 0 1 ++ nb e.f0.size 1 ++ nb e.f1.size 1 ++ e.f0 ++ e.f1).data.toList = encE e) := by unfold Hid; simp [SB.dataAppend, nb_list, encE, mk, HM.out]
        generalize nb 0 1 ++ nb e.f0.size 1 ++ nb e.f1.size 1 ++ e.f0 ++ e.f1 = st at hstr ⊢
        have hss : st.size = esz e := by rw [← SB.sizeL, hstr.out, encE_length]
        go_wp2_with fail
        refine (Tryd.bWrite B B _ st w7 (bld_below hI hbz) (by
          have h1 := HSM.out
          have h2 := HRL.out
          rw [hss, Lib.byteCells_length, List.length_append, headB_length]
          unfold esz
          omega) (Nat.le_trans hBr hbz.size)).mono ?_
        rintro _ w8 ⟨rfl, hbl8, hb8⟩
        have hbl9 : Hid (Lib.IsBuilder 70 5 B B (Lib.byteCells (headB k l.length ++ rowsB (l.take (i + 1)))) w8) := Or.inr (by
          rw [rows_next HE.out, ← hstr.out, ← List.append_assoc, Lib.byteCells_append]
          exact hbl8)
        have hB9 : Hid (Below B w5 w8) := (hB.trans (hbz.mono hBr)).trans hb8
        have hBr9 : Hid (B ≤ w8.heap.size) := Nat.le_trans (Nat.le_trans hBr hbz.size) hb8.size
        clear hbl8 hb8 hbz hw7 hss hstr
        go_wp2_with fail
        go_roundw
        case rel => exact ⟨i + 1, hlt, by go_num, hB9.out, hbl9.out, hBr9.out⟩
        case measure => exact rt_measure hlt (e_small hi hl1)
      · rw [hm2] at X
        have HM := Lib.hid hm2
        clear hm2
        obtain ⟨c0, c1, c2⟩ := X.three
        go_upto_region 13 with (fail)
        clear c0 c1 c2
        have K1 := fun (wv : World) (hwv : Below w6.heap.size w6 wv) => put1_1 wv
        have K2 := fun (wv : World) (hwv : Below w6.heap.size w6 wv) => put1_c e.f0.size wv (by omega)
        have K3 := fun (wv : World) (hwv : Below w6.heap.size w6 wv) => put1_c e.f1.size wv (by omega)
        have z1 : ¬ 9223372036854775807 < 1 + 1 + 1 + e.f0.size := by omega
        have z2 : ¬ 9223372036854775807 < 1 + 1 + 1 + e.f0.size + e.f1.size := by omega
        have z3 : ¬ 9223372036854775807 < 3 + e.f0.size := by omega
        have z4 : ¬ 9223372036854775807 < 3 + e.f0.size + e.f1.size := by omega
        have z5 : ¬ 9223372036854775807 < 1 + (1 + (1 + e.f0.size)) := by omega
        have HSM := Lib.hid hsm
        have HRL := Lib.hid hrl
        as_aux_lemma =>
        refine QT.wp_region_quiet_tail (C := fun w' => Below w6.heap.size w6 w') 18 (by kernel_rfl) (by kernel_rfl) (Below.refl _ _).drew ?_
        simp only [List.take_succ_cons, List.take_zero, List.drop_succ_cons, List.drop_zero]
        repeat (first
          | go_big_quiet_skip
          | (go_big_quiet_want
             refine quiet_of (v := ?_) (fun wv hwv => ?_) ?_
             rotate_left
             · obtain ⟨c0, c1, c2⟩ := (X.below hwv X.lt).three
               go_simp
               first | done | ((with_reducible refine (K1 wv hwv).mono ?_); rintro _ _ ⟨rfl, hb⟩; (refine ⟨?_, hwv.trans (hb.mono hwv.size)⟩; rfl)) | ((with_reducible refine (K2 wv hwv).mono ?_); rintro _ _ ⟨rfl, hb⟩; (refine ⟨?_, hwv.trans (hb.mono hwv.size)⟩; rfl)) | ((with_reducible refine (K3 wv hwv).mono ?_); rintro _ _ ⟨rfl, hb⟩; (refine ⟨?_, hwv.trans (hb.mono hwv.size)⟩; rfl)) | ((with_reducible refine (K4 wv hwv).mono ?_); rintro _ _ ⟨rfl, hb⟩; (refine ⟨?_, hwv.trans (hb.mono hwv.size)⟩; rfl)) | rfl | exact ⟨rfl, rfl⟩
             (try simp only [Act.put, List.setIfInBounds_toArray, List.set_cons_zero, List.set_cons_succ])
             go_big_quiet_on))
        refine wpQuiet_nil ?_
        clear z1 z2 z3 z4 z5 K1 K2 K3
        intro w7 hw7
        have hbz : Below wr.heap.size wr w7 := hb6.trans (hw7.mono hb6.size)
        have hstr : Hid ((nb 1 1 ++ nb e.f0.size 1 ++ nb e.f1.size 1 ++ e.f0 ++ e.f1).data.toList = encE e) := by unfold Hid; simp [SB.dataAppend, nb_list, encE, mk, HM.out]
        generalize nb 1 1 ++ nb e.f0.size 1 ++ nb e.f1.size 1 ++ e.f0 ++ e.f1 = st at hstr ⊢
        have hss : st.size = esz e := by rw [← SB.sizeL, hstr.out, encE_length]
        go_wp2_with fail
        refine (Tryd.bWrite B B _ st w7 (bld_below hI hbz) (by
          have h1 := HSM.out
          have h2 := HRL.out
          rw [hss, Lib.byteCells_length, List.length_append, headB_length]
          unfold esz
          omega) (Nat.le_trans hBr hbz.size)).mono ?_
        rintro _ w8 ⟨rfl, hbl8, hb8⟩
        have hbl9 : Hid (Lib.IsBuilder 70 5 B B (Lib.byteCells (headB k l.length ++ rowsB (l.take (i + 1)))) w8) := Or.inr (by
          rw [rows_next HE.out, ← hstr.out, ← List.append_assoc, Lib.byteCells_append]
          exact hbl8)
        have hB9 : Hid (Below B w5 w8) := (hB.trans (hbz.mono hBr)).trans hb8
        have hBr9 : Hid (B ≤ w8.heap.size) := Nat.le_trans (Nat.le_trans hBr hbz.size) hb8.size
        clear hbl8 hb8 hbz hw7 hss hstr
        go_wp2_with fail
        go_roundw
        case rel => exact ⟨i + 1, hlt, by go_num, hB9.out, hbl9.out, hBr9.out⟩
        case measure => exact rt_measure hlt (e_small hi hl1)
    · have hlt' : ¬ (i : Int) < (l.length : Int) := by omega
      have hil : i = l.length := by omega
      subst hil
      rw [List.take_length] at hI
      have X9 := X5.below hB hwl
      have B9 := B5.trans (hB.mono hB2)
      obtain ⟨L, hL⟩ : ∃ L, L = headB k l.length ++ rowsB l := ⟨_, rfl⟩
      rw [← hL] at hI
      have hLl : L.length = 7 + sizes l := by rw [hL, List.length_append, headB_length, rowsB_length]
      have HL := Lib.hid hL
      clear hL X5 B5 hB hBw5 hB2
      as_aux_lemma =>
      go_wp2_with fail
      refine (Tryd.bLen B B _ wr hI).mono ?_
      rintro _ w9 ⟨rfl, h9⟩
      rw [h9]
      clear h9
      have hcl : (Lib.byteCells L).length = 7 + sizes l := by rw [Lib.byteCells_length, hLl]
      have hsub : (496 : Int) - (7 + (sizes l : Int)) = ((496 - (7 + sizes l) : Nat) : Int) := by omega
      rw [hcl]
      go_wp2_with fail
      refine (rep_c (496 - (7 + sizes l)) (by omega) wr).mono ?_
      rintro _ wa ⟨rfl, hba⟩
      have hIa := bld_below hI hba
      have Xa := X9.below hba X9.lt
      have Ba := B9.trans (hba.mono B9.size)
      have hBa := Nat.le_trans hBr hba.size
      obtain ⟨Z, hZ⟩ : ∃ Z, Z = (⟨(List.replicate (496 - (7 + sizes l)) (0 : UInt8)).toArray⟩ : ByteArray) := ⟨_, rfl⟩
      rw [← hZ]
      have hZl : Z.data.toList = List.replicate (496 - (7 + sizes l)) 0 := by rw [hZ]
      have hZs : Z.size = 496 - (7 + sizes l) := by rw [← SB.sizeL, hZl, List.length_replicate]
      clear hZ
      go_wp2_with fail
      refine (Tryd.bWrite B B _ Z wa hIa (by rw [hZs, hcl]; omega) hBa).mono ?_
      rintro _ wb ⟨rfl, hblb, hbb⟩
      have hbody : Hid (Lib.IsBuilderF 70 5 B B (Lib.byteCells (bodyB k l)) wb) := Lib.IsBuilderF.of (Or.inr (by
        have e : bodyB k l = L ++ Z.data.toList := by rw [hZl, HL.out]; rfl
        rw [e, Lib.byteCells_append]
        exact hblb))
      have Xb := Xa.below hbb hwl
      have Bb := Ba.trans (hbb.mono (Nat.le_of_lt hwl))
      have hBb := Nat.le_trans hBa hbb.size
      clear hblb hbb hIa Xa Ba hBa hI X9 B9 hBr hba hcl hsub hZl hZs
      as_aux_lemma =>
      go_upto_region 16 with (fail)
      have hL0 := laid_below HLd.out Bb
      refine wp_region_quiet (C := fun w' => Below B wb w' ∧ Lib.IsBuilderF 70 5 B B (Lib.byteCells (bodyB k l)) w') (by kernel_rfl) (by kernel_rfl) ⟨(Below.refl _ _).drew, by
        rcases hbody.out with h | h
        · exact Or.inl h.drew
        · exact Or.inr h.drew⟩ ?_
      simp only [List.toList_toArray]
      have hbs : (⟨(bodyB k l).toArray⟩ : ByteArray).size = 496 := by rw [← SB.sizeL]; exact bodyB_length k l hz
      have KS := fun (wv : World) (hwv : Below B wb wv ∧ Lib.IsBuilderF 70 5 B B (Lib.byteCells (bodyB k l)) wv) => Tryd.bStringF B B (bodyB k l) wv hwv.2 (Nat.le_trans hBb hwv.1.size)
      have KB := fun (wv : World) (hwv : Below B wb wv ∧ Lib.IsBuilderF 70 5 B B (Lib.byteCells (bodyB k l)) wv) => build_c n ⟨(bodyB k l).toArray⟩ hbs hn wv (laid_below HLd.out (Bb.trans (hwv.1.mono (Nat.le_of_lt hwl))))
      repeat (first
        | go_big_quiet_skip
        | (go_big_quiet_want
           refine quiet_of (v := ?_) (fun wv hwv => ?_) ?_
           rotate_left
           · obtain ⟨c0, c1, c2, c3, c4, c5⟩ := (Xb.below hwv.1 hwl).six
             go_simp
             first | done | ((with_reducible refine (KS wv hwv).mono ?_); rintro _ w' ⟨rfl, hF, hb⟩; (refine ⟨?_, hwv.1.trans hb, hF⟩; rfl)) | ((with_reducible refine (KB wv hwv).mono ?_); rintro _ w' ⟨rfl, hb⟩; (refine ⟨?_, hwv.1.trans (hb.mono (Nat.le_trans hBb hwv.1.size)), bldF_below hwv.2 hb⟩; rfl)) | rfl | exact ⟨rfl, rfl⟩
           (try simp only [Act.put, List.setIfInBounds_toArray, List.set_cons_zero, List.set_cons_succ])
           go_big_quiet_on))
      refine wpQuiet_nil ?_
      intro wz hwz
      have Bz := Bb.trans (hwz.1.mono (Nat.le_of_lt hwl))
      clear KS KB
      go_wp2_with fail
      go_ret2
      exact ⟨rfl, Bz⟩
end TP
end Go.Proofs.YtfaabbimbjegmaaDoor

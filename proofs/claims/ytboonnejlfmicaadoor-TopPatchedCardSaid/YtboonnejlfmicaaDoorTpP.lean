/-
  The contracts of pieces: right, Diff, Get, Put.
-/
import Derived.Test.YtboonnejlfmicaaDoorTpL
import Derived.Test.YtboonnejlfmicaaDoorQTail
import Derived.Test.YtboonnejlfmicaaDoorShelf
import Derived.BigQuiet
set_option linter.unusedVariables false
set_option linter.unusedSimpArgs false
namespace Go.Proofs.YtboonnejlfmicaaDoor
open Go Go.RowKit Go.Proofs.YtboonnejlfmicaaDoor.PA Go.Proofs.YtboonnejlfmicaaDoor.SB Go.Proofs.YtboonnejlfmicaaDoorW.PrintWords
namespace TP
theorem quiet_of {P : Program} {C : World → Prop} {a : Act} {o : Oper} {K : Act → Prop} {v : Value} (h : ∀ w, C w → o.quietAt P a C w v) (k : K (a.put o.dst v)) : o.quiet P a C K := ⟨v, h, k⟩
theorem rt_small {i n N : Nat} (h : i ≤ n) (h2 : n + 0 ≤ N) (h3 : N ≤ 65535) : i ≤ 10000000 := by omega
theorem rt_measure {i n : Nat} (h : i < n) (hs : i ≤ 10000000) : n - (intOf (.int .i64 ((i : Int) + 1))).toNat < n - (intOf (.int .i64 (i : Int))).toNat := by
  simp only [intOf]
  omega
theorem rt_next {i : Nat} (hs : i ≤ 10000000) : Value.int .i64 (wrap64 ((i : Int) + 1)) = .int .i64 ((i + 1 : Nat) : Int) := by rw [w1 hs]
theorem put1_c (n : Nat) (w : World) (hn : n < 256) : Calls Tryd.prog 6 #[.int .i64 n, .int .i64 1] w fun e w' => e = .returned (.string (nb n 1)) ∧ Below w.heap.size w w' := put_c n 1 w (by decide) (by decide) (by omega)
theorem put2_c (n : Nat) (w : World) (hn : n < 65536) : Calls Tryd.prog 6 #[.int .i64 n, .int .i64 2] w fun e w' => e = .returned (.string (nb n 2)) ∧ Below w.heap.size w w' := put_c n 2 w (by decide) (by decide) (by omega)
theorem bld_below {T e : TypeId} {B b : Nat} {bs : List Value} {w w' : World} (h : Lib.IsBuilder T e B b bs w) (hb : Below w.heap.size w w') : Lib.IsBuilder T e B b bs w' := by
  have key : ∀ p, Lib.BuilderAt T e B b p bs w → Lib.BuilderAt T e B b p bs w' := by
    intro p h
    have hlt := h.lt
    obtain ⟨hB, v, hk, ⟨hl, hrow⟩, hne⟩ := h
    refine ⟨hB, v, (hb.block b hlt).trans hk, ⟨hl, ?_⟩, hne⟩
    rcases hrow with h | ⟨g, cap, cur, e1, e2, e3, e4⟩
    · exact Or.inl h
    · exact Or.inr ⟨g, cap, cur, e1, e2, (hb.block g (Array.getElem?_eq_some_iff.1 e3).1).trans e3, e4⟩
  rcases h with h | h
  · exact Or.inl (key _ h)
  · exact Or.inr (key _ h)
theorem bld_lt {T e : TypeId} {B b : Nat} {bs : List Value} {w : World} (h : Lib.IsBuilder T e B b bs w) : b < w.heap.size := by
  rcases h with h | h
  · exact h.lt
  · exact h.lt
/-- Pieces that are read. -/
def RdP (w : World) (s : Value) (l : List Pc) : Prop := ∃ A c, s = .slice A l.length c ∧ l.length ≤ c ∧ c ≤ maxLen ∧ Kd.C k65 w A (l.map cp).length (l.map cp)
theorem RdP.below {w w' : World} {s : Value} {l : List Pc} (h : RdP w s l) (hb : Below w.heap.size w w') : RdP w' s l := by
  obtain ⟨A, c, h1, h2, hm, h3⟩ := h
  exact ⟨A, c, h1, h2, hm, Kd.C_below h3 hb⟩
theorem R_cap {α : Type} {d : Kd α} {e : Nat} {w : World} {base : Nat} {ok : Nat → Prop} {v : Value} {xs : List α} (h : d.R e w base ok v xs) : ∃ A c, v = .slice A xs.length c ∧ xs.length ≤ c ∧ c ≤ maxLen ∧ d.C w A xs.length xs := by
  obtain ⟨A, c, hv, hc, hr⟩ := Kd.R_reads h
  refine ⟨A, c, hv, hc, ?_, hr⟩
  obtain ⟨inner, ho⟩ := Kd.R_own h
  rcases ho.2 with ⟨e1, _⟩ | ⟨g, cap, cur, e1, _, _, _, hm, _⟩
  · rw [hv] at e1
    injection e1 with _ _ e3
    omega
  · rw [hv] at e1
    injection e1 with _ _ e3
    omega
theorem rdP_of {w : World} {base : Nat} {ok : Nat → Prop} {v : Value} {l : List Pc} (h : Kd.R k65 65 w base ok v (l.map cp)) : RdP w v l := by
  obtain ⟨A, c, hv, hc, hm, hr⟩ := R_cap h
  exact ⟨A, c, by rw [hv, List.length_map], by simpa using hc, hm, hr⟩
variable {w : World} {s : Value}
theorem rightP_c {l : List Pc} {N : Nat} (hN : N ≤ 65535) (hok : okP N 0 l) (hr : RdP w s l) : Calls Tryd.prog 25 #[s] w fun e w' => e = .returned (.bool true) ∧ Below w.heap.size w w' := by
  obtain ⟨A, c, rfl, hc, hm, hC⟩ := hr
  obtain ⟨k, hk⟩ := (right_f hN hok).rounds
  have := patch_right.calls k A c (l.map cp) _ w hC (by simpa using hc) hk
  rw [List.length_map] at this
  exact this
theorem diff_c (a b : ByteArray) (N : Nat) (hN : N ≤ 65535) (ha : a.size = N) (hb : b.size = N) (w : World) :
    ∃ qs, okP N 0 qs ∧ app a.data.toList qs = b.data.toList ∧ Calls Tryd.prog 8 #[.string a, .string b] w fun e w' => ∃ v, e = .returned v ∧ RdP w' v qs ∧ Below w.heap.size w w' := by
  obtain ⟨qs, q1, q2, q3⟩ := diff_f a b N hN ha hb
  obtain ⟨k, hk⟩ := q3.rounds
  exact ⟨qs, q1, q2, (patch_Diff.calls k a b _ w hk).mono fun e w' ⟨v, h1, h2, h3⟩ => ⟨v, h1, rdP_of h2, h3⟩⟩
theorem getP_c (t : ByteArray) (L : List Pc) (N : Nat) (hN : N ≤ 65535) (hok : okP N 0 L) (ht : t.data.toList = putP L) (hsz : t.size ≤ 1000000000) (w : World) :
    Calls Tryd.prog 10 #[.string t] w fun e w' => ∃ v, e = .returned (.tuple #[v, .int .i64 t.size, .int .i64 0]) ∧ RdP w' v L ∧ Below w.heap.size w w' := by
  obtain ⟨k, hk⟩ := (get_pieces t L N hN hok ht hsz).rounds
  exact (patch_Get.calls k t _ _ _ w hk).mono fun e w' ⟨v, h1, h2, h3⟩ => ⟨v, h1, rdP_of h2, h3⟩
theorem bodyP_le {N : Nat} : ∀ {l : List Pc} {e : Nat}, e ≤ N → okP N e l → (bodyP l).length + 5 * e ≤ 5 * N
  | [], e, he, _ => by simp [bodyP]; omega
  | p :: l, e, he, h => by
    have h0 := bodyP_le h.2.2.1 h.2.2.2
    have h1 := h.1
    have h2 := h.2.1
    have : (bodyP (p :: l)).length = 4 + p.2.size + (bodyP l).length := by simp [bodyP, encP_length]
    omega
theorem okP_take {N : Nat} : ∀ {l : List Pc} {e : Nat} (i : Nat), okP N e l → okP N e (l.take i)
  | _, _, 0, _ => by rw [List.take_zero]; trivial
  | [], _, i + 1, _ => trivial
  | p :: l, e, i + 1, h => ⟨h.1, h.2.1, h.2.2.1, okP_take i h.2.2.2⟩
def PutR (B b : Nat) (l : List Pc) (w0 : World) (v : Value) (wr : World) : Prop :=
  ∃ i : Nat, i ≤ l.length ∧ v = .int .i64 i ∧ Below w0.heap.size w0 wr ∧ Lib.IsBuilder 56 5 B b (Lib.byteCells (be l.length 2 ++ bodyP (l.take i))) wr ∧ B ≤ wr.heap.size
set_option maxHeartbeats 4000000 in
set_option maxRecDepth 100000 in
theorem putP_c {l : List Pc} {N : Nat} (hN : N ≤ 65535) (hok : okP N 0 l) (hr : RdP w s l) : Calls Tryd.prog 11 #[s] w fun e w' => e = .returned (.string ⟨(putP l).toArray⟩) ∧ Below w.heap.size w w' := by
  have hlen := okP_len (Nat.zero_le _) hok
  have HR := Lib.hid hr
  obtain ⟨A, c, rfl, hc, hm, hC⟩ := hr
  go_enter Tryd.func11, Tryd.ntmps11
  go_wp2_with fail
  refine (rightP_c hN hok HR.out).mono ?_
  rintro _ w1 ⟨rfl, hb1⟩
  go_wp2_with fail
  have hbl := Lib.fresh_isBuilder 56 5 w1
  have hb2 : Below w.heap.size w (w1.alloc (.cells #[.pointer none, .slice none 0 0] 56)) := hb1.alloc hb1.size _
  have hBw : w1.heap.size ≤ (w1.alloc (.cells #[.pointer none, .slice none 0 0] 56)).heap.size := by simp
  generalize World.alloc w1 _ = w2 at hbl hb2 hBw ⊢
  refine (put2_c l.length _ (by omega)).mono ?_
  rintro _ w3 ⟨rfl, hb3⟩
  go_wp2_with fail
  refine (Tryd.bWrite w1.heap.size w1.heap.size _ (nb l.length 2) w3 (bld_below hbl hb3) (by rw [nb_size]; decide) (Nat.le_trans hBw hb3.size)).mono ?_
  rintro _ w4 ⟨rfl, hbl4, hb4⟩
  have hB4 : Below w.heap.size w w4 := (hb2.trans (hb3.mono hb2.size)).trans (hb4.mono hb1.size)
  have hBw4 : w1.heap.size ≤ w4.heap.size := Nat.le_trans (Nat.le_trans hBw hb3.size) hb4.size
  go_wp2_with fail
  go_loopw [15] (fun v wr => PutR w1.heap.size w1.heap.size l w v wr) (fun v _ => l.length - (intOf v).toNat)
  case atStart => exact ⟨0, Nat.zero_le _, rfl, hB4, Or.inr (by simpa [bodyP, Lib.strCells_eq, nb_list] using hbl4), hBw4⟩
  case round =>
    obtain ⟨i, hi, rfl, hB, hI, hBr⟩ := hrel
    by_cases hlt : i < l.length
    · have hlt' : (i : Int) < (l.length : Int) := by omega
      have hi0 : (0 : Int) ≤ (i : Int) := by omega
      obtain ⟨p, hp⟩ : ∃ y, l[i]? = some y := ⟨l[i], by simp [hlt]⟩
      obtain ⟨ad, hA, a0, a1⟩ := at_T65 (Kd.C_below hC hB) (i : Int) hi0 (by rw [List.length_map]; exact hlt')
      rw [rdP hp, Int.toNat_natCast] at a0 a1
      change wr.cell? _ = some (Value.int .i64 p.1) at a0
      change wr.cell? _ = some (Value.string p.2) at a1
      subst hA
      go_upto_region 8 with (fail)
      have X := bx_new wr #[.int .i64 p.1, .string p.2] 65
      have hb5 : Below wr.heap.size wr (wr.alloc (.cells #[.int .i64 p.1, .string p.2] 65)) := (Below.refl _ _).alloc (Nat.le_refl _) _
      generalize World.alloc wr _ = w5 at X hb5 ⊢
      have hpN := okP_at hok hp
      have K1 := fun (wv : World) (hwv : Below w5.heap.size w5 wv) => put2_c p.1 wv (by omega)
      have K2 := fun (wv : World) (hwv : Below w5.heap.size w5 wv) => put2_c p.2.size wv (by omega)
      have hlb := bodyP_le (Nat.zero_le _) (okP_take i hok)
      have z1 : ¬ 9223372036854775807 < (nb p.1 2).size + (nb p.2.size 2).size := by rw [nb_size, nb_size]; decide
      have z2 : ¬ 9223372036854775807 < (nb p.1 2 ++ nb p.2.size 2).size + p.2.size := by rw [ByteArray.size_append, nb_size, nb_size]; omega
      have z3 : ¬ 9223372036854775807 < (nb p.1 2).size + (nb p.2.size 2).size + p.2.size := by rw [nb_size, nb_size]; omega
      as_aux_lemma =>
      refine QT.wp_region_quiet_tail (C := fun w' => Below w5.heap.size w5 w') 11 (by kernel_rfl) (by kernel_rfl) (Below.refl _ _).drew ?_
      simp only [List.take_succ_cons, List.take_zero, List.drop_succ_cons, List.drop_zero]
      repeat (first
        | go_big_quiet_skip
        | (go_big_quiet_want
           refine quiet_of (v := ?_) (fun wv hwv => ?_) ?_
           rotate_left
           · obtain ⟨c0, c1⟩ := (X.below hwv X.lt).two
             go_simp
             first | done | ((with_reducible refine (K1 wv hwv).mono ?_); rintro _ _ ⟨rfl, hb⟩; (refine ⟨?_, hwv.trans (hb.mono hwv.size)⟩; rfl)) | ((with_reducible refine (K2 wv hwv).mono ?_); rintro _ _ ⟨rfl, hb⟩; (refine ⟨?_, hwv.trans (hb.mono hwv.size)⟩; rfl)) | rfl | exact ⟨rfl, rfl⟩
           (try simp only [Act.put, List.setIfInBounds_toArray, List.set_cons_zero, List.set_cons_succ])
           go_big_quiet_on))
      refine wpQuiet_nil ?_
      intro wz hwz
      have hbz : Below wr.heap.size wr wz := hb5.trans (hwz.mono hb5.size)
      have hIz := bld_below hI hbz
      go_wp2_with fail
      refine (Tryd.bWrite w1.heap.size w1.heap.size _ (nb p.1 2 ++ nb p.2.size 2 ++ p.2) wz hIz (by
        rw [Lib.byteCells_length, List.length_append, be_length, ByteArray.size_append, ByteArray.size_append, nb_size, nb_size]
        omega) (Nat.le_trans hBr hbz.size)).mono ?_
      rintro _ w6 ⟨rfl, hbl6, hb6⟩
      go_wp2_with fail
      go_roundw
      case rel => exact ⟨i + 1, hlt, by go_num, (hB.trans (hbz.mono hB.size)).trans (hb6.mono hb1.size), Or.inr (by
        rw [take_one hp]
        simpa [bodyP, encP, Lib.strCells_eq, Lib.byteCells, SB.dataAppend, nb_list] using hbl6), Nat.le_trans (Nat.le_trans hBr hbz.size) hb6.size⟩
      case measure => exact rt_measure hlt (rt_small hi hlen hN)
    · have hlt' : ¬ (i : Int) < (l.length : Int) := by omega
      have hil : i = l.length := by omega
      subst hil
      rw [List.take_length] at hI
      go_wp2_with fail
      refine (Tryd.bString w1.heap.size w1.heap.size (be l.length 2 ++ bodyP l) wr hI hBr).mono ?_
      rintro _ w6 ⟨rfl, hb6⟩
      go_wp2_with fail
      go_ret
      exact ⟨rfl, hB.trans (hb6.mono hb1.size)⟩
end TP
end Go.Proofs.YtboonnejlfmicaaDoor

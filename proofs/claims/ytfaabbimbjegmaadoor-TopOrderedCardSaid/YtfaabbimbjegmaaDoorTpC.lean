/-
  Small contracts: numbers in bytes, a page's room, entries that are looked through by a function.
-/
import Derived.Test.YtfaabbimbjegmaaDoorSum
import Derived.Test.YtfaabbimbjegmaaDoorPAll
import Derived.Lib.Hide
set_option linter.unusedVariables false
set_option linter.unusedSimpArgs false
namespace Go.Proofs.YtfaabbimbjegmaaDoor
open Go Go.RowKit Go.Proofs.YtfaabbimbjegmaaDoor.PA Go.Proofs.YtfaabbimbjegmaaDoor.SB Go.Proofs.YtfaabbimbjegmaaDoorW.PrintWords
namespace TP
theorem old {w wr : World} (h : Below w.heap.size w wr) {p : Addr} {v : Value} (hc : w.cell? p = some v) : wr.cell? p = some v := (h.cell (World.block_lt_of_cell? w p hc)).trans hc
/-- A box of cells. -/
def Bx (w : World) (b : Nat) (cs : Array Value) (t : Nat) : Prop := w.heap[b]? = some (.cells cs t (0, 0))
theorem Bx.cell {w : World} {b t : Nat} {cs : Array Value} (h : Bx w b cs t) (i : Nat) : w.cell? ⟨b, i, none⟩ = cs[i]? := blk_cell h i
theorem Bx.free {w : World} {b t : Nat} {cs : Array Value} (h : Bx w b cs t) (i : Nat) : w.frozen? ⟨b, i, none⟩ = false := blk_frozen h i
theorem Bx.below {w w' : World} {b t B : Nat} {cs : Array Value} (h : Bx w b cs t) (hb : Below B w w') (hB : b < B) : Bx w' b cs t := (hb.block b hB).trans h
theorem Bx.lt {w : World} {b t : Nat} {cs : Array Value} (h : Bx w b cs t) : b < w.heap.size := blk_lt h
theorem Bx.six {w : World} {b t : Nat} {a0 a1 a2 a3 a4 a5 : Value} (h : Bx w b #[a0, a1, a2, a3, a4, a5] t) : w.cell? ⟨b, 0, none⟩ = some a0 ∧ w.cell? ⟨b, 1, none⟩ = some a1 ∧ w.cell? ⟨b, 2, none⟩ = some a2 ∧ w.cell? ⟨b, 3, none⟩ = some a3 ∧ w.cell? ⟨b, 4, none⟩ = some a4 ∧ w.cell? ⟨b, 5, none⟩ = some a5 :=
  ⟨h.cell 0, h.cell 1, h.cell 2, h.cell 3, h.cell 4, h.cell 5⟩
theorem Bx.three {w : World} {b t : Nat} {a0 a1 a2 : Value} (h : Bx w b #[a0, a1, a2] t) : w.cell? ⟨b, 0, none⟩ = some a0 ∧ w.cell? ⟨b, 1, none⟩ = some a1 ∧ w.cell? ⟨b, 2, none⟩ = some a2 :=
  ⟨h.cell 0, h.cell 1, h.cell 2⟩
theorem Bx.two {w : World} {b t : Nat} {a0 a1 : Value} (h : Bx w b #[a0, a1] t) : w.cell? ⟨b, 0, none⟩ = some a0 ∧ w.cell? ⟨b, 1, none⟩ = some a1 :=
  ⟨h.cell 0, h.cell 1⟩
theorem Bx.six_free {w : World} {b t : Nat} {a0 a1 a2 a3 a4 a5 : Value} (h : Bx w b #[a0, a1, a2, a3, a4, a5] t) : w.frozen? ⟨b, 0, none⟩ = false ∧ w.frozen? ⟨b, 1, none⟩ = false ∧ w.frozen? ⟨b, 2, none⟩ = false ∧ w.frozen? ⟨b, 3, none⟩ = false ∧ w.frozen? ⟨b, 4, none⟩ = false ∧ w.frozen? ⟨b, 5, none⟩ = false :=
  ⟨h.free 0, h.free 1, h.free 2, h.free 3, h.free 4, h.free 5⟩
theorem bx_new (w : World) (cs : Array Value) (t : Nat) : Bx (w.alloc (.cells cs t (0, 0))) w.heap.size cs t := heap_alloc_new w _
theorem bx_old {w : World} {b t : Nat} {cs : Array Value} (h : Bx w b cs t) (o : Obj) : Bx (w.alloc o) b cs t := ((Below.refl w.heap.size w).alloc (Nat.le_refl _) o |>.block b h.lt).trans h
theorem bx_at {w : World} {b b' t : Nat} {cs : Array Value} (h : Bx w b cs t) (e : b = b') : Bx w b' cs t := e ▸ h
theorem Bx.drew {w : World} {b t : Nat} {cs : Array Value} (h : Bx w b cs t) : Bx w.drew b cs t := h
theorem Bx.set {w : World} {b t : Nat} {cs : Array Value} (h : Bx w b cs t) (i : Nat) (u : Value) : Bx (w.setCell ⟨b, i, none⟩ u) b (cs.setIfInBounds i u) t := blk_set h i u
theorem Bx.far {w : World} {b t : Nat} {cs : Array Value} (h : Bx w b cs t) {p : Addr} (hp : b ≠ p.block) (u : Value) : Bx (w.setCell p u) b cs t := blk_far h hp u
/-- A number's bytes, so many. -/
def nb (n s : Nat) : ByteArray := ⟨(be n s).toArray⟩
theorem nb_size (n s : Nat) : (nb n s).size = s := by
  show (be n s).toArray.size = s
  simp [be_length]
theorem nb_list (n s : Nat) : (nb n s).data.toList = be n s := by simp [nb]
theorem pow_le (s : Nat) (h7 : s ≤ 7) : 256 ^ s ≤ 9223372036854775807 := by
  have : s = 0 ∨ s = 1 ∨ s = 2 ∨ s = 3 ∨ s = 4 ∨ s = 5 ∨ s = 6 ∨ s = 7 := by omega
  rcases this with h | h | h | h | h | h | h | h <;> subst h <;> decide
theorem put_c (n s : Nat) (w : World) (h1 : 1 ≤ s) (h7 : s ≤ 7) (hn : n < 256 ^ s) : Calls Tryd.prog 20 #[.int .i64 n, .int .i64 s] w fun e w' => e = .returned (.string (nb n s)) ∧ Below w.heap.size w w' := by
  have hle := pow_le s h7
  obtain ⟨t, ⟨K, hK⟩, ht⟩ := put_f (n : Int) (s : Int) (by omega)
  have := sum_Put.calls K n s t w (hK K (Nat.le_refl _))
  have e : t = nb n s := SB.ext (by rw [ht, nb_list]; unfold putL; rw [if_pos ⟨by omega, by omega, by omega, by simpa using hn⟩]; simp)
  rwa [e] at this
theorem get_c (a : ByteArray) (w : World) : Calls Tryd.prog 19 #[.string a] w fun e w' => e = .returned (.int .i64 (getL a.data.toList : Nat)) ∧ Below w.heap.size w w' := by
  obtain ⟨K, hK⟩ := get_f a
  exact (sum_Get.calls K a _ w (hK K (Nat.le_refl _))).mono fun e w' ⟨h1, h2⟩ => ⟨h1, h2.below⟩
theorem get_nb {n s : Nat} (h7 : s ≤ 7) (hn : n < 256 ^ s) : getL (nb n s).data.toList = n := by
  rw [nb_list]
  unfold getL
  rw [if_neg (by rw [be_length]; omega), num_be s n hn]

abbrev E := S43
def enV (e : E) : Value := .agg #[.string e.f0, .string e.f1, .bool e.f2]
def pgV (n k : Nat) (s : Value) : Value := .agg #[.int .i64 n, .int .i64 k, .int .i64 0, .int .i64 0, .string ⟨#[]⟩, s]
/-- Entries that are read. -/
def RdE (w : World) (s : Value) (l : List E) : Prop := ∃ A c, s = .slice A l.length c ∧ l.length ≤ c ∧ c ≤ maxLen ∧ Kd.C k43 w A l.length l
theorem RdE.below {w w' : World} {s : Value} {l : List E} (h : RdE w s l) (hb : Below w.heap.size w w') : RdE w' s l := by
  obtain ⟨A, c, h1, h2, hm, h3⟩ := h
  exact ⟨A, c, h1, h2, hm, Kd.C_below h3 hb⟩
theorem rdE_nil (w : World) : RdE w (.slice none 0 0) [] := ⟨none, 0, rfl, Nat.le_refl _, Nat.zero_le _, rfl, Nat.zero_le _, fun h => absurd h (by simp)⟩
def esz (e : E) : Nat := 3 + e.f0.size + e.f1.size
def sizes : List E → Nat
  | [] => 0
  | e :: l => esz e + sizes l
/-- Few entries, none of them long. -/
def Small (l : List E) : Prop := l.length ≤ 1000 ∧ ∀ e ∈ l, e.f0.size ≤ 64 ∧ e.f1.size ≤ 100
theorem rdE {l : List E} {i : Nat} {e : E} (h : l[i]? = some e) : rd_T43 l (i : Int) = e := by
  simp [rd_T43, List.getD_eq_getElem?_getD, h]
theorem w1 {i : Nat} (h : i ≤ 10000000) : wrap64 ((i : Int) + 1) = ((i + 1 : Nat) : Int) := by unfold wrap64; omega
theorem wsz {e : E} (h : e.f0.size ≤ 64 ∧ e.f1.size ≤ 100) : wrap64 ((wrap64 (3 + (e.f0.size : Int))) + (e.f1.size : Int)) = (esz e : Int) := by
  have h1 : wrap64 (3 + (e.f0.size : Int)) = 3 + (e.f0.size : Int) := by unfold wrap64; omega
  rw [h1]
  unfold esz wrap64
  omega
theorem size_f {e : E} (h : e.f0.size ≤ 64 ∧ e.f1.size ≤ 100) : page_Size.f e.f0 e.f1 e.f2 = some (esz e : Int) := by
  unfold page_Size.f
  rw [wsz h]
theorem small_sizes : ∀ {l : List E}, (∀ e ∈ l, e.f0.size ≤ 64 ∧ e.f1.size ≤ 100) → sizes l ≤ 203 * l.length
  | [], _ => by simp [sizes]
  | e :: l, h => by
    have h1 := h e (by simp)
    have h2 := small_sizes (l := l) fun x hx => h x (by simp [hx])
    simp only [sizes, esz, List.length_cons]
    omega
theorem drop_at {l : List E} {i : Nat} {e : E} (h : l[i]? = some e) : l.drop i = e :: l.drop (i + 1) := by
  obtain ⟨hl, he⟩ := List.getElem?_eq_some_iff.1 h
  rw [List.drop_eq_getElem_cons hl, he]
theorem free_l0 (l : List E) (hs : Small l) : ∀ d i, i + d = l.length → ∀ (n : Int) (k : Nat), d < k → -5000000 ≤ n - sizes (l.drop i) → n ≤ 5000000 →
    page_Free.l0 k n l (l.length : Int) (i : Int) = some (n - (sizes (l.drop i) : Int)) := by
  intro d
  induction d with
  | zero =>
    intro i hi n k hk h1 h2
    obtain ⟨k, rfl⟩ : ∃ m, k = m + 1 := ⟨k - 1, by omega⟩
    rw [page_Free.l0, if_neg (by omega), List.drop_eq_nil_of_le (by omega)]
    simp [sizes]
  | succ d ih =>
    intro i hi n k hk h1 h2
    obtain ⟨k, rfl⟩ : ∃ m, k = m + 1 := ⟨k - 1, by omega⟩
    obtain ⟨e, he⟩ : ∃ e, l[i]? = some e := ⟨l[i], by simp [show i < l.length by omega]⟩
    have hsm := hs.2 e (List.mem_of_getElem? he)
    have hl := hs.1
    rw [drop_at he] at h1
    simp only [sizes] at h1
    have hw : wrap64 (n - (esz e : Int)) = n - (esz e : Int) := by unfold wrap64; omega
    rw [page_Free.l0, if_pos (by omega), if_pos (by omega), if_pos (by omega), rdE he]
    rw [size_f hsm]
    simp only [Option.bind_some]
    rw [hw, w1 (by omega), ih (i + 1) (by omega) _ k (by omega) (by omega) (by omega), drop_at he]
    simp only [sizes]
    congr 1
    omega
variable {w : World} {s : Value}
theorem free_c {l : List E} (n k : Nat) (hs : Small l) (hr : RdE w s l) : Calls Tryd.prog 9 #[pgV n k s] w fun e w' => e = .returned (.int .i64 (489 - (sizes l : Int))) ∧ Below w.heap.size w w' := by
  obtain ⟨A, c, rfl, hc, hm, hC⟩ := hr
  have hb := small_sizes hs.2
  have hl := hs.1
  have := free_l0 l hs l.length 0 (by omega) 489 (l.length + 1) (by omega) (by rw [List.drop_zero]; omega) (by omega)
  refine page_Free.calls (l.length + 1) n k 0 0 ⟨#[]⟩ A c l _ w hC hc ?_
  unfold page_Free.f
  rw [show ((⟨#[]⟩ : ByteArray).size : Int) = 0 from rfl, show wrap64 (489 - 0) = 489 by unfold wrap64; omega, show (0 : Int) = ((0 : Nat) : Int) from rfl, this, List.drop_zero]
theorem size_c {e : E} (h : e.f0.size ≤ 64 ∧ e.f1.size ≤ 100) : Calls Tryd.prog 10 #[enV e] w fun x w' => x = .returned (.int .i64 (esz e)) ∧ Below w.heap.size w w' :=
  page_Size.calls e.f0 e.f1 e.f2 _ w (size_f h)

theorem long_c (e : E) (h : e.f0.size ≤ 64 ∧ e.f1.size ≤ 100) (w : World) : Calls Tryd.prog 50 #[.agg #[.string e.f0, .string e.f1, .bool e.f2]] w fun x w' => x = .returned (.bool false) ∧ Below w.heap.size w w' := by
  have hal := (Below.refl w.heap.size w).alloc (Nat.le_refl _) (.cells #[.string e.f0, .string e.f1, .bool e.f2] 43)
  have h1 : decide ((64 : Int) < (e.f0.size : Int)) = false := by simp; omega
  have h2 : decide ((100 : Int) < (e.f1.size : Int)) = false := by simp; omega
  go_enter Tryd.func50, Tryd.ntmps50
  go_wp2
  go_ret
  exact ⟨rfl, hal⟩
def fnV : Value := .func (.func 50) #[] #[]
def inR (w : World) (v8 : Value) (n : Nat) (W : World) : Prop := ∃ i : Nat, i ≤ n ∧ v8 = .int .i64 i ∧ Below w.heap.size w W
set_option maxHeartbeats 1000000 in
theorem index_c {l : List E} (hs : Small l) (hr : RdE w s l) : Calls Tryd.prog 62 #[s, fnV] w fun e w' => e = .returned (.int .i64 (-1)) ∧ Below w.heap.size w w' := by
  obtain ⟨A, c, rfl, hc, hm, hC⟩ := hr
  have hl := hs.1
  go_enter Tryd.func62, Tryd.ntmps62
  unfold fnV
  go_wp2_with fail
  go_loopw [8] (fun v8 wr => inR w v8 l.length wr) (fun v8 _ => l.length - (intOf v8).toNat)
  case atStart => exact ⟨0, Nat.zero_le _, rfl, Below.refl _ _⟩
  case round =>
    obtain ⟨i, hi, rfl, hb⟩ := hrel
    by_cases hlt : i < l.length
    · have hlt' : (i : Int) < (l.length : Int) := by omega
      have hi0 : (0 : Int) ≤ (i : Int) := by omega
      obtain ⟨e, he⟩ : ∃ y, l[i]? = some y := ⟨l[i], by simp [hlt]⟩
      obtain ⟨ad, hA, a0, a1, a2⟩ := at_T43 (Kd.C_below hC hb) (i : Int) hi0 hlt'
      rw [rdE he, Int.toNat_natCast] at a0 a1 a2
      subst hA
      go_wp2_with fail
      refine (long_c e (hs.2 e (List.mem_of_getElem? he)) _).mono ?_
      rintro _ w1 ⟨rfl, hb1⟩
      go_wp2_with fail
      go_roundw
      case rel => exact ⟨i + 1, hlt, by go_num, hb.trans (hb1.mono hb.size)⟩
      case measure => have := TP.w1 (i := i) (by omega); simp only [intOf]; omega
    · have hlt' : ¬ (i : Int) < (l.length : Int) := by omega
      go_wp2_with fail
      go_ret
      exact ⟨rfl, hb⟩
theorem contains_c {l : List E} (hs : Small l) (hr : RdE w s l) : Calls Tryd.prog 49 #[s, fnV] w fun e w' => e = .returned (.bool false) ∧ Below w.heap.size w w' := by
  go_enter Tryd.func49, Tryd.ntmps49
  go_wp2_with fail
  refine (index_c hs hr).mono ?_
  rintro _ w1 ⟨rfl, hb1⟩
  go_wp2_with fail
  go_ret
  exact ⟨rfl, hb1⟩
theorem within_c (n a b : Int) (w : World) (h1 : a ≤ n) (h2 : n ≤ b) : Calls Tryd.prog 48 #[.int .i64 n, .int .i64 a, .int .i64 b] w fun e w' => e = .returned (.bool true) ∧ Below w.heap.size w w' := by
  refine (page_within.calls n a b true w ?_).mono fun e w' ⟨h1, h2⟩ => ⟨h1, h2.below⟩
  unfold page_within.f
  rw [if_pos h1, decide_eq_true h2]
set_option maxHeartbeats 2000000 in
theorem right_c {l : List E} (n k : Nat) (hn : n < 281474976710656) (hk : 1 ≤ k ∧ k ≤ 255) (hs : Small l) (hr : RdE w s l) : Calls Tryd.prog 25 #[pgV n k s] w fun e w' => e = .returned (.bool true) ∧ Below w.heap.size w w' := by
  unfold pgV
  have X0 := bx_new w #[.int .i64 n, .int .i64 k, .int .i64 0, .int .i64 0, .string ⟨#[]⟩, s] 29
  have B0 : Below w.heap.size w (w.alloc (.cells #[.int .i64 n, .int .i64 k, .int .i64 0, .int .i64 0, .string ⟨#[]⟩, s] 29)) := (Below.refl w.heap.size w).alloc (Nat.le_refl _) _
  go_enter Tryd.func25, Tryd.ntmps25
  obtain ⟨c0, c1, c2, c3, c4, c5⟩ := X0.six
  go_wp2_with fail
  refine (within_c n 0 281474976710655 _ (by omega) (by omega)).mono ?_
  rintro _ w1 ⟨rfl, hw1⟩
  have X1 := X0.below hw1 X0.lt
  have B1 := B0.trans (hw1.mono B0.size)
  clear c0 c1 c2 c3 c4 c5 hw1
  obtain ⟨c0, c1, c2, c3, c4, c5⟩ := X1.six
  go_wp2_with fail
  refine (within_c k 1 255 _ (by omega) (by omega)).mono ?_
  rintro _ w2 ⟨rfl, hw2⟩
  have X2 := X1.below hw2 X1.lt
  have B2 := B1.trans (hw2.mono B1.size)
  clear c0 c1 c2 c3 c4 c5 hw2
  obtain ⟨c0, c1, c2, c3, c4, c5⟩ := X2.six
  go_wp2_with fail
  refine (within_c 0 0 255 _ (by omega) (by omega)).mono ?_
  rintro _ w3 ⟨rfl, hw3⟩
  have X3 := X2.below hw3 X2.lt
  have B3 := B2.trans (hw3.mono B2.size)
  clear c0 c1 c2 c3 c4 c5 hw3
  obtain ⟨c0, c1, c2, c3, c4, c5⟩ := X3.six
  go_wp2_with fail
  refine (within_c 0 0 65535 _ (by omega) (by omega)).mono ?_
  rintro _ w4 ⟨rfl, hw4⟩
  have X4 := X3.below hw4 X3.lt
  have B4 := B3.trans (hw4.mono B3.size)
  clear c0 c1 c2 c3 c4 c5 hw4
  obtain ⟨c0, c1, c2, c3, c4, c5⟩ := X4.six
  go_wp2_with fail
  refine (contains_c hs (hr.below B4)).mono ?_
  rintro _ w5 ⟨rfl, hw5⟩
  have X5 := X4.below hw5 X4.lt
  have B5 := B4.trans (hw5.mono B4.size)
  clear c0 c1 c2 c3 c4 c5 hw5
  go_wp2_with fail
  go_ret
  exact ⟨rfl, B5⟩
end TP
end Go.Proofs.YtfaabbimbjegmaaDoor

/-
  Nodes of entries, plainly: the order of keys, what a page has left, where a key stands, what an insertion, a mark, a removal, a split make of a node. No program stands here.
-/
import GoSem.Op.String
import Derived.Lib.Bytealg
set_option linter.unusedVariables false
set_option linter.unusedSimpArgs false
namespace NdP
open Go

/-! ### The order of bytes -/
theorem less_nil_right (a : List UInt8) : Op.bytesLess a [] = false := by cases a <;> rfl
theorem less_irrefl : ∀ a : List UInt8, Op.bytesLess a a = false
  | [] => rfl
  | x :: a => by simp [Op.bytesLess, less_irrefl a]
theorem u_trans {a b c : UInt8} (h : a < b) (k : b < c) : a < c := by rw [UInt8.lt_iff_toNat_lt] at *; omega
theorem u_tri (a b : UInt8) : a < b ∨ a = b ∨ b < a := by
  rw [UInt8.lt_iff_toNat_lt, UInt8.lt_iff_toNat_lt, ← UInt8.toNat_inj]
  omega
theorem u_asym {a b : UInt8} (h : a < b) : ¬ b < a := by rw [UInt8.lt_iff_toNat_lt] at *; omega
theorem u_irr (a : UInt8) : ¬ a < a := by rw [UInt8.lt_iff_toNat_lt]; omega
theorem less_trans : ∀ {a b c : List UInt8}, Op.bytesLess a b = true → Op.bytesLess b c = true → Op.bytesLess a c = true
  | [], [], _, h, _ => by simp [Op.bytesLess] at h
  | [], _ :: _, [], _, k => by simp [Op.bytesLess] at k
  | [], _ :: _, _ :: _, _, _ => rfl
  | _ :: _, [], _, h, _ => by simp [Op.bytesLess] at h
  | _ :: _, _ :: _, [], _, k => by simp [Op.bytesLess] at k
  | x :: a, y :: b, z :: c, h, k => by
    simp only [Op.bytesLess, Bool.or_eq_true, decide_eq_true_eq, Bool.and_eq_true, beq_iff_eq] at *
    rcases h with h | ⟨rfl, h⟩ <;> rcases k with k | ⟨rfl, k⟩
    · exact Or.inl (u_trans h k)
    · exact Or.inl h
    · exact Or.inl k
    · exact Or.inr ⟨rfl, less_trans h k⟩
theorem less_total : ∀ {a b : List UInt8}, a ≠ b → Op.bytesLess a b = true ∨ Op.bytesLess b a = true
  | [], [], h => absurd rfl h
  | [], _ :: _, _ => Or.inl rfl
  | _ :: _, [], _ => Or.inr rfl
  | x :: a, y :: b, h => by
    simp only [Op.bytesLess, Bool.or_eq_true, decide_eq_true_eq, Bool.and_eq_true, beq_iff_eq]
    rcases u_tri x y with h1 | rfl | h1
    · exact Or.inl (Or.inl h1)
    · have hab : a ≠ b := fun e => h (by rw [e])
      rcases less_total hab with h2 | h2
      · exact Or.inl (Or.inr ⟨rfl, h2⟩)
      · exact Or.inr (Or.inr ⟨rfl, h2⟩)
    · exact Or.inr (Or.inl h1)
theorem less_asymm {a b : List UInt8} (h : Op.bytesLess a b = true) : Op.bytesLess b a = false := by
  cases hb : Op.bytesLess b a
  · rfl
  · have := less_trans h hb
    rw [less_irrefl] at this
    cases this
theorem cmp_neg : ∀ (a b : List UInt8), Lib.compareBytes a b < 0 ↔ Op.bytesLess a b = true
  | [], [] => by simp [Lib.compareBytes, Op.bytesLess]
  | [], _ :: _ => by simp [Lib.compareBytes, Op.bytesLess]
  | _ :: _, [] => by simp [Lib.compareBytes, Op.bytesLess]
  | x :: a, y :: b => by
    simp only [Lib.compareBytes, Op.bytesLess, Bool.or_eq_true, decide_eq_true_eq, Bool.and_eq_true, beq_iff_eq]
    rcases u_tri x y with h | rfl | h
    · simp [h]
    · rw [if_neg (u_irr x), if_neg (u_irr x), cmp_neg a b]
      simp [u_irr]
    · rw [if_neg (u_asym h), if_pos h]
      have : x ≠ y := fun e => u_irr x (by rw [e] at h ⊢; exact h)
      simp [u_asym h, this]
theorem cmp_zero : ∀ (a b : List UInt8), Lib.compareBytes a b = 0 ↔ a = b
  | [], [] => by simp [Lib.compareBytes]
  | [], _ :: _ => by simp [Lib.compareBytes]
  | _ :: _, [] => by simp [Lib.compareBytes]
  | x :: a, y :: b => by
    simp only [Lib.compareBytes]
    rcases u_tri x y with h | rfl | h
    · have : x ≠ y := fun e => u_irr x (by rw [e] at h ⊢; exact h)
      simp [h, this]
    · rw [if_neg (u_irr x), if_neg (u_irr x), cmp_zero a b]
      simp
    · rw [if_neg (u_asym h), if_pos h]
      have : x ≠ y := fun e => u_irr x (by rw [e] at h ⊢; exact h)
      simp [this]

theorem toList_data (s : ByteArray) : s.toList = s.data.toList := by
  have key : ∀ (n i : Nat) (r : List UInt8), n + i = s.size → ByteArray.toList.loop s i r = r.reverse ++ s.data.toList.drop i := by
    intro n
    induction n with
    | zero =>
      intro i r hi
      unfold ByteArray.toList.loop
      have hs : s.data.toList.length = s.size := by rw [Array.length_toList]; rfl
      rw [if_neg (by omega), List.drop_eq_nil_of_le (by omega)]
      simp
    | succ n ih =>
      intro i r hi
      unfold ByteArray.toList.loop
      have hs : s.data.toList.length = s.size := by rw [Array.length_toList]; rfl
      rw [if_pos (by omega), ih (i + 1) _ (by omega)]
      have hlt : i < s.data.toList.length := by omega
      rw [List.drop_eq_getElem_cons hlt]
      have hg : s.get! i = s.data.toList[i] := by
        have h2 : i < s.data.size := by rw [← Array.length_toList]; exact hlt
        show s.data[i]! = _
        rw [getElem!_pos s.data i h2]
        simp
      rw [hg]
      simp
  have := key s.size 0 [] (by omega)
  simpa [ByteArray.toList] using this
theorem ext_toList {a b : ByteArray} (h : a.toList = b.toList) : a = b := by
  rw [toList_data, toList_data] at h
  cases a; cases b
  simp only [ByteArray.mk.injEq]
  exact Array.ext' h

/-- One key ahead of another. -/
def lss (a b : ByteArray) : Bool := Op.bytesLess a.toList b.toList
theorem lss_irrefl (a : ByteArray) : lss a a = false := less_irrefl _
theorem lss_trans {a b c : ByteArray} (h : lss a b = true) (k : lss b c = true) : lss a c = true := less_trans h k
theorem lss_total {a b : ByteArray} (h : a ≠ b) : lss a b = true ∨ lss b a = true := less_total fun e => h (ext_toList e)
theorem lss_asymm {a b : ByteArray} (h : lss a b = true) : lss b a = false := less_asymm h
theorem lss_ne {a b : ByteArray} (h : lss a b = true) : a ≠ b := fun e => by rw [e, lss_irrefl] at h; cases h
theorem lss_of_not {a b : ByteArray} (h : lss a b = false) (hn : a ≠ b) : lss b a = true := by
  rcases lss_total hn with h1 | h1
  · rw [h] at h1; cases h1
  · exact h1

/-! ### Nodes -/
structure Ent where
  k : ByteArray
  v : ByteArray
  m : Bool
structure Pg where
  lsn : Int
  kind : Int
  level : Int
  right : Int
  high : ByteArray
  es : List Ent
def zero : Pg := ⟨0, 0, 0, 0, ⟨#[]⟩, []⟩

def size (e : Ent) : Nat := 3 + e.k.size + e.v.size
def sizes (l : List Ent) : Nat := (l.map size).sum
def free (p : Pg) : Int := 489 - (p.high.size : Int) - (sizes p.es : Int)
def place (l : List Ent) (key : ByteArray) : Nat := (l.filter fun e => lss e.k key).length
def thereAt (l : List Ent) (n : Nat) (key : ByteArray) : Bool := match l[n]? with
  | some e => decide (e.k = key)
  | none => false
def there (l : List Ent) (key : ByteArray) : Bool := thereAt l (place l key) key
def Sorted (l : List Ent) : Prop := l.Pairwise fun a b => lss a.k b.k = true
def covers (p : Pg) (key : ByteArray) : Bool := decide (p.high.toList = []) || lss key p.high

def ins (p : Pg) (e : Ent) : Pg × Int :=
  if 64 < e.k.size ∨ 100 < e.v.size ∨ covers p e.k = false then (zero, 1)
  else if there p.es e.k = true then (zero, 12)
  else if free p < size e then (zero, 8)
  else ({ p with es := p.es.take (place p.es e.k) ++ e :: p.es.drop (place p.es e.k) }, 0)

def setMark (l : List Ent) (n : Nat) (b : Bool) : List Ent := match l[n]? with
  | some e => l.set n { e with m := b }
  | none => l
def markAt (l : List Ent) (n : Nat) : Bool := match l[n]? with
  | some e => e.m
  | none => false
def mark (p : Pg) (key : ByteArray) (b : Bool) : Pg × Int :=
  if there p.es key = false then (zero, 11)
  else if markAt p.es (place p.es key) = b then (zero, 17)
  else ({ p with es := setMark p.es (place p.es key) b }, 0)
def rem (p : Pg) (key : ByteArray) : Pg × Int :=
  if there p.es key = false then (zero, 11)
  else ({ p with es := p.es.eraseIdx (place p.es key) }, 0)

theorem sizes_cons (e : Ent) (l : List Ent) : sizes (e :: l) = size e + sizes l := by simp [sizes]
theorem sizes_append (l m : List Ent) : sizes (l ++ m) = sizes l + sizes m := by simp [sizes]
theorem place_le (l : List Ent) (key : ByteArray) : place l key ≤ l.length := List.length_filter_le _ _

/-- In a sorted list what stands ahead of a key's place is less, and the rest is not. -/
theorem place_split {l : List Ent} (h : Sorted l) (key : ByteArray) : (∀ e ∈ l.take (place l key), lss e.k key = true) ∧ (∀ e ∈ l.drop (place l key), lss e.k key = false) := by
  induction l with
  | nil => simp [place]
  | cons x l ih =>
    obtain ⟨h1, h2⟩ := List.pairwise_cons.1 h
    have ih := ih h2
    by_cases hx : lss x.k key = true
    · have hp : place (x :: l) key = place l key + 1 := by simp [place, List.filter_cons, hx]
      rw [hp]
      refine ⟨fun e he => ?_, fun e he => ?_⟩
      · simp only [List.take_succ_cons, List.mem_cons] at he
        rcases he with rfl | he
        · exact hx
        · exact ih.1 e he
      · simp only [List.drop_succ_cons] at he
        exact ih.2 e he
    · have hx' : lss x.k key = false := by simpa using hx
      have hall : ∀ e ∈ l, lss e.k key = false := fun e he => by
        cases hk : lss e.k key
        · rfl
        · have := lss_trans (h1 e he) hk
          rw [hx'] at this
          cases this
      have hp : place (x :: l) key = 0 := by
        simp only [place, List.filter_cons, hx', Bool.false_eq_true, if_false]
        rw [List.length_eq_zero_iff, List.filter_eq_nil_iff]
        intro e he
        rw [hall e he]
        simp
      rw [hp]
      refine ⟨fun e he => by simp at he, fun e he => ?_⟩
      simp only [List.drop_zero, List.mem_cons] at he
      rcases he with rfl | he
      · exact hx'
      · exact hall e he
/-- Whatever divides the list so is the place. -/
theorem place_of_split {l : List Ent} {n : Nat} {key : ByteArray} (hn : n ≤ l.length) (h1 : ∀ e ∈ l.take n, lss e.k key = true) (h2 : ∀ e ∈ l.drop n, lss e.k key = false) : place l key = n := by
  unfold place
  conv => lhs; rw [← List.take_append_drop n l]
  rw [List.filter_append, List.length_append, List.filter_eq_self.2 h1]
  have : (l.drop n).filter (fun e => lss e.k key) = [] := List.filter_eq_nil_iff.2 fun e he => by rw [h2 e he]; simp
  rw [this]
  simp
  omega
theorem not_there {l : List Ent} (h : Sorted l) {key : ByteArray} (ht : there l key = false) : ∀ e ∈ l.drop (place l key), lss key e.k = true := by
  intro e he
  have hge := (place_split h key).2 e he
  refine lss_of_not hge fun heq => ?_
  -- e is behind the place; the one at the place is not the key, so it is greater
  rcases hd : l.drop (place l key) with _ | ⟨y, r⟩
  · rw [hd] at he; simp at he
  · have hy : l[place l key]? = some y := by
      have := congrArg (fun x => x[0]?) hd
      simpa using this
    have hyk : y.k ≠ key := by
      intro e2
      unfold there thereAt at ht
      rw [hy] at ht
      simp [e2] at ht
    have hyge := (place_split h key).2 y (by rw [hd]; simp)
    have hlt := lss_of_not hyge hyk
    rw [hd] at he
    rcases List.mem_cons.1 he with rfl | he
    · exact hyk heq
    · have hs : (y :: r).Pairwise fun a b => lss a.k b.k = true := by rw [← hd]; exact h.sublist (List.drop_sublist _ _)
      have := (List.pairwise_cons.1 hs).1 e he
      rw [heq] at this
      have := lss_trans hlt this
      rw [lss_irrefl] at this
      cases this
theorem ins_sorted {l : List Ent} (h : Sorted l) {e : Ent} (ht : there l e.k = false) : Sorted (l.take (place l e.k) ++ e :: l.drop (place l e.k)) := by
  unfold Sorted
  rw [List.pairwise_append]
  refine ⟨h.sublist (List.take_sublist _ _), ?_, ?_⟩
  · rw [List.pairwise_cons]
    exact ⟨fun x hx => not_there h ht x hx, h.sublist (List.drop_sublist _ _)⟩
  · intro a ha b hb
    have hak := (place_split h e.k).1 a ha
    rcases List.mem_cons.1 hb with rfl | hb
    · exact hak
    · exact lss_trans hak (not_there h ht b hb)
theorem mem_ins {l : List Ent} {n : Nat} {e x : Ent} : x ∈ l.take n ++ e :: l.drop n ↔ x = e ∨ x ∈ l := by
  have : x ∈ l ↔ x ∈ l.take n ∨ x ∈ l.drop n := by
    conv => lhs; rw [← List.take_append_drop n l]
    rw [List.mem_append]
  rw [this]
  simp only [List.mem_append, List.mem_cons]
  constructor
  · rintro (h | h | h)
    · exact Or.inr (Or.inl h)
    · exact Or.inl h
    · exact Or.inr (Or.inr h)
  · rintro (h | h | h)
    · exact Or.inr (Or.inl h)
    · exact Or.inl h
    · exact Or.inr (Or.inr h)
theorem sizes_ins (l : List Ent) (n : Nat) (e : Ent) : sizes (l.take n ++ e :: l.drop n) = sizes l + size e := by
  conv => rhs; rw [← List.take_append_drop n l]
  rw [sizes_append, sizes_append, sizes_cons]
  omega
theorem there_iff {l : List Ent} (h : Sorted l) {key : ByteArray} : there l key = true ↔ ∃ e ∈ l, e.k = key := by
  constructor
  · intro ht
    unfold there thereAt at ht
    split at ht
    · rename_i e he
      exact ⟨e, List.mem_of_getElem? he, by simpa using ht⟩
    · cases ht
  · rintro ⟨e, he, rfl⟩
    cases ht : there l e.k
    · exfalso
      rw [← List.take_append_drop (place l e.k) l, List.mem_append] at he
      rcases he with he | he
      · have := (place_split h e.k).1 e he
        rw [lss_irrefl] at this
        cases this
      · have := not_there h ht e he
        rw [lss_irrefl] at this
        cases this
    · rfl
theorem there_lt {l : List Ent} {key : ByteArray} (h : there l key = true) : ∃ e, l[place l key]? = some e ∧ e.k = key := by
  unfold there thereAt at h
  split at h
  · rename_i e he
    exact ⟨e, he, by simpa using h⟩
  · cases h
end NdP

/-
  The map's pairs, plainly: the order of keys, where a key stands, what the search finds.
-/
import Derived.Test.YtfaabbimbjegmaaDoorTpJ
set_option linter.unusedVariables false
set_option linter.unusedSimpArgs false
namespace Go.Proofs.YtfaabbimbjegmaaDoor
open Go Go.RowKit Go.Proofs.YtfaabbimbjegmaaDoor.PA Go.Proofs.YtfaabbimbjegmaaDoorW.PrintWords TP
namespace MP
theorem less_nil_right (a : List UInt8) : Op.bytesLess a [] = false := by cases a <;> rfl
theorem less_irrefl : ∀ a : List UInt8, Op.bytesLess a a = false
  | [] => rfl
  | x :: a => by simp [Op.bytesLess, less_irrefl a]
theorem u_trans {a b c : UInt8} (h : a < b) (k : b < c) : a < c := by rw [UInt8.lt_iff_toNat_lt] at *; omega
theorem u_tri (a b : UInt8) : a < b ∨ a = b ∨ b < a := by
  rw [UInt8.lt_iff_toNat_lt, UInt8.lt_iff_toNat_lt, ← UInt8.toNat_inj]
  omega
theorem u_asym {a b : UInt8} (h : a < b) : ¬ b < a := by rw [UInt8.lt_iff_toNat_lt] at *; omega
theorem u_irr (a : UInt8) : ¬ a < a := by rw [UInt8.lt_iff_toNat_lt]; omega
theorem less_trans : ∀ {a b c : List UInt8}, Op.bytesLess a b = true → Op.bytesLess b c = true → Op.bytesLess a c = true
  | [], [], _, h, _ => by simp [Op.bytesLess] at h
  | [], _ :: _, [], _, k => by simp [Op.bytesLess] at k
  | [], _ :: _, _ :: _, _, _ => rfl
  | _ :: _, [], _, h, _ => by simp [Op.bytesLess] at h
  | _ :: _, _ :: _, [], _, k => by simp [Op.bytesLess] at k
  | x :: a, y :: b, z :: c, h, k => by
    simp only [Op.bytesLess, Bool.or_eq_true, decide_eq_true_eq, Bool.and_eq_true, beq_iff_eq] at *
    rcases h with h | ⟨rfl, h⟩ <;> rcases k with k | ⟨rfl, k⟩
    · exact Or.inl (u_trans h k)
    · exact Or.inl h
    · exact Or.inl k
    · exact Or.inr ⟨rfl, less_trans h k⟩
theorem less_total : ∀ {a b : List UInt8}, a ≠ b → Op.bytesLess a b = true ∨ Op.bytesLess b a = true
  | [], [], h => absurd rfl h
  | [], _ :: _, _ => Or.inl rfl
  | _ :: _, [], _ => Or.inr rfl
  | x :: a, y :: b, h => by
    simp only [Op.bytesLess, Bool.or_eq_true, decide_eq_true_eq, Bool.and_eq_true, beq_iff_eq]
    rcases u_tri x y with h1 | rfl | h1
    · exact Or.inl (Or.inl h1)
    · have hab : a ≠ b := fun e => h (by rw [e])
      rcases less_total hab with h2 | h2
      · exact Or.inl (Or.inr ⟨rfl, h2⟩)
      · exact Or.inr (Or.inr ⟨rfl, h2⟩)
    · exact Or.inr (Or.inl h1)
theorem less_asymm {a b : List UInt8} (h : Op.bytesLess a b = true) : Op.bytesLess b a = false := by
  cases hb : Op.bytesLess b a
  · rfl
  · have := less_trans h hb
    rw [less_irrefl] at this
    cases this
theorem cmp_neg : ∀ (a b : List UInt8), Lib.compareBytes a b < 0 ↔ Op.bytesLess a b = true
  | [], [] => by simp [Lib.compareBytes, Op.bytesLess]
  | [], _ :: _ => by simp [Lib.compareBytes, Op.bytesLess]
  | _ :: _, [] => by simp [Lib.compareBytes, Op.bytesLess]
  | x :: a, y :: b => by
    simp only [Lib.compareBytes, Op.bytesLess, Bool.or_eq_true, decide_eq_true_eq, Bool.and_eq_true, beq_iff_eq]
    rcases u_tri x y with h | rfl | h
    · simp [h]
    · rw [if_neg (u_irr x), if_neg (u_irr x), cmp_neg a b]
      simp [u_irr]
    · rw [if_neg (u_asym h), if_pos h]
      have : x ≠ y := fun e => u_irr x (by rw [e] at h ⊢; exact h)
      simp [u_asym h, this]
theorem toList_data (s : ByteArray) : s.toList = s.data.toList := by
  have key : ∀ (n i : Nat) (r : List UInt8), n + i = s.size → ByteArray.toList.loop s i r = r.reverse ++ s.data.toList.drop i := by
    intro n
    induction n with
    | zero =>
      intro i r hi
      unfold ByteArray.toList.loop
      have hs : s.data.toList.length = s.size := by rw [Array.length_toList]; rfl
      rw [if_neg (by omega), List.drop_eq_nil_of_le (by omega)]
      simp
    | succ n ih =>
      intro i r hi
      unfold ByteArray.toList.loop
      have hs : s.data.toList.length = s.size := by rw [Array.length_toList]; rfl
      rw [if_pos (by omega), ih (i + 1) _ (by omega)]
      have hlt : i < s.data.toList.length := by omega
      rw [List.drop_eq_getElem_cons hlt]
      have hg : s.get! i = s.data.toList[i] := by
        have h2 : i < s.data.size := by rw [← Array.length_toList]; exact hlt
        show s.data[i]! = _
        rw [getElem!_pos s.data i h2]
        simp
      rw [hg]
      simp
  have := key s.size 0 [] (by omega)
  simpa [ByteArray.toList] using this
theorem ext_toList {a b : ByteArray} (h : a.toList = b.toList) : a = b := by
  rw [toList_data, toList_data] at h
  cases a; cases b
  simp only [ByteArray.mk.injEq]
  exact Array.ext' h

/-- One key ahead of another. -/
def lss (a b : ByteArray) : Bool := Op.bytesLess a.toList b.toList
theorem lss_irrefl (a : ByteArray) : lss a a = false := less_irrefl _
theorem lss_trans {a b c : ByteArray} (h : lss a b = true) (k : lss b c = true) : lss a c = true := less_trans h k
theorem lss_total {a b : ByteArray} (h : a ≠ b) : lss a b = true ∨ lss b a = true := less_total fun e => h (ext_toList e)
theorem lss_asymm {a b : ByteArray} (h : lss a b = true) : lss b a = false := less_asymm h
theorem lss_ne {a b : ByteArray} (h : lss a b = true) : a ≠ b := fun e => by rw [e, lss_irrefl] at h; cases h
theorem lss_of_not {a b : ByteArray} (h : lss a b = false) (hn : a ≠ b) : lss b a = true := by
  rcases lss_total hn with h1 | h1
  · rw [h] at h1; cases h1
  · exact h1

def place (l : List Pr) (key : ByteArray) : Nat := (l.filter fun e => lss e.f0 key).length
def thereAt (l : List Pr) (n : Nat) (key : ByteArray) : Bool := match l[n]? with
  | some e => decide (e.f0 = key)
  | none => false
def there (l : List Pr) (key : ByteArray) : Bool := thereAt l (place l key) key
def Sorted (l : List Pr) : Prop := l.Pairwise fun a b => lss a.f0 b.f0 = true
theorem place_le (l : List Pr) (key : ByteArray) : place l key ≤ l.length := List.length_filter_le _ _

/-- In a sorted list what stands ahead of a key's place is less, and the rest is not. -/
theorem place_split {l : List Pr} (h : Sorted l) (key : ByteArray) : (∀ e ∈ l.take (place l key), lss e.f0 key = true) ∧ (∀ e ∈ l.drop (place l key), lss e.f0 key = false) := by
  induction l with
  | nil => simp [place]
  | cons x l ih =>
    obtain ⟨h1, h2⟩ := List.pairwise_cons.1 h
    have ih := ih h2
    by_cases hx : lss x.f0 key = true
    · have hp : place (x :: l) key = place l key + 1 := by simp [place, List.filter_cons, hx]
      rw [hp]
      refine ⟨fun e he => ?_, fun e he => ?_⟩
      · simp only [List.take_succ_cons, List.mem_cons] at he
        rcases he with rfl | he
        · exact hx
        · exact ih.1 e he
      · simp only [List.drop_succ_cons] at he
        exact ih.2 e he
    · have hx' : lss x.f0 key = false := by simpa using hx
      have hall : ∀ e ∈ l, lss e.f0 key = false := fun e he => by
        cases hk : lss e.f0 key
        · rfl
        · have := lss_trans (h1 e he) hk
          rw [hx'] at this
          cases this
      have hp : place (x :: l) key = 0 := by
        simp only [place, List.filter_cons, hx', Bool.false_eq_true, if_false]
        rw [List.length_eq_zero_iff, List.filter_eq_nil_iff]
        intro e he
        rw [hall e he]
        simp
      rw [hp]
      refine ⟨fun e he => by simp at he, fun e he => ?_⟩
      simp only [List.drop_zero, List.mem_cons] at he
      rcases he with rfl | he
      · exact hx'
      · exact hall e he
/-- Whatever divides the list so is the place. -/
theorem place_of_split {l : List Pr} {n : Nat} {key : ByteArray} (hn : n ≤ l.length) (h1 : ∀ e ∈ l.take n, lss e.f0 key = true) (h2 : ∀ e ∈ l.drop n, lss e.f0 key = false) : place l key = n := by
  unfold place
  conv => lhs; rw [← List.take_append_drop n l]
  rw [List.filter_append, List.length_append, List.filter_eq_self.2 h1]
  have : (l.drop n).filter (fun e => lss e.f0 key) = [] := List.filter_eq_nil_iff.2 fun e he => by rw [h2 e he]; simp
  rw [this]
  simp
  omega
theorem not_there {l : List Pr} (h : Sorted l) {key : ByteArray} (ht : there l key = false) : ∀ e ∈ l.drop (place l key), lss key e.f0 = true := by
  intro e he
  have hge := (place_split h key).2 e he
  refine lss_of_not hge fun heq => ?_
  -- e is behind the place; the one at the place is not the key, so it is greater
  rcases hd : l.drop (place l key) with _ | ⟨y, r⟩
  · rw [hd] at he; simp at he
  · have hy : l[place l key]? = some y := by
      have := congrArg (fun x => x[0]?) hd
      simpa using this
    have hyk : y.f0 ≠ key := by
      intro e2
      unfold there thereAt at ht
      rw [hy] at ht
      simp [e2] at ht
    have hyge := (place_split h key).2 y (by rw [hd]; simp)
    have hlt := lss_of_not hyge hyk
    rw [hd] at he
    rcases List.mem_cons.1 he with rfl | he
    · exact hyk heq
    · have hs : (y :: r).Pairwise fun a b => lss a.f0 b.f0 = true := by rw [← hd]; exact h.sublist (List.drop_sublist _ _)
      have := (List.pairwise_cons.1 hs).1 e he
      rw [heq] at this
      have := lss_trans hlt this
      rw [lss_irrefl] at this
      cases this
theorem ins_sorted {l : List Pr} (h : Sorted l) {e : Pr} (ht : there l e.f0 = false) : Sorted (l.take (place l e.f0) ++ e :: l.drop (place l e.f0)) := by
  unfold Sorted
  rw [List.pairwise_append]
  refine ⟨h.sublist (List.take_sublist _ _), ?_, ?_⟩
  · rw [List.pairwise_cons]
    exact ⟨fun x hx => not_there h ht x hx, h.sublist (List.drop_sublist _ _)⟩
  · intro a ha b hb
    have hak := (place_split h e.f0).1 a ha
    rcases List.mem_cons.1 hb with rfl | hb
    · exact hak
    · exact lss_trans hak (not_there h ht b hb)
theorem mem_ins {l : List Pr} {n : Nat} {e x : Pr} : x ∈ l.take n ++ e :: l.drop n ↔ x = e ∨ x ∈ l := by
  have : x ∈ l ↔ x ∈ l.take n ∨ x ∈ l.drop n := by
    conv => lhs; rw [← List.take_append_drop n l]
    rw [List.mem_append]
  rw [this]
  simp only [List.mem_append, List.mem_cons]
  constructor
  · rintro (h | h | h)
    · exact Or.inr (Or.inl h)
    · exact Or.inl h
    · exact Or.inr (Or.inr h)
  · rintro (h | h | h)
    · exact Or.inr (Or.inl h)
    · exact Or.inl h
    · exact Or.inr (Or.inr h)
theorem there_iff {l : List Pr} (h : Sorted l) {key : ByteArray} : there l key = true ↔ ∃ e ∈ l, e.f0 = key := by
  constructor
  · intro ht
    unfold there thereAt at ht
    split at ht
    · rename_i e he
      exact ⟨e, List.mem_of_getElem? he, by simpa using ht⟩
    · cases ht
  · rintro ⟨e, he, rfl⟩
    cases ht : there l e.f0
    · exfalso
      rw [← List.take_append_drop (place l e.f0) l, List.mem_append] at he
      rcases he with he | he
      · have := (place_split h e.f0).1 e he
        rw [lss_irrefl] at this
        cases this
      · have := not_there h ht e he
        rw [lss_irrefl] at this
        cases this
    · rfl
theorem there_lt {l : List Pr} {key : ByteArray} (h : there l key = true) : ∃ e, l[place l key]? = some e ∧ e.f0 = key := by
  unfold there thereAt at h
  split at h
  · rename_i e he
    exact ⟨e, he, by simpa using h⟩
  · cases h
theorem cmp_f (a b : ByteArray) : cmp_Compare_string.f a b = some (if lss a b = true then -1 else if lss b a = true then 1 else 0) := by
  unfold cmp_Compare_string.f cmp_isNaN_string.f lss
  simp
  split
  · rfl
  · split <;> rfl
theorem cmp_lss (a b : ByteArray) : (if lss a b = true then (-1 : Int) else if lss b a = true then 1 else 0) < 0 ↔ lss a b = true := by
  cases h : lss a b
  · cases lss b a <;> simp
  · simp
theorem cmp_eq0 (a b : ByteArray) : ((if lss a b = true then (-1 : Int) else if lss b a = true then 1 else 0) == 0) = decide (a = b) := by
  by_cases he : a = b
  · subst he
    simp [lss_irrefl]
  · rcases lss_total he with h | h
    · simp [h, he]
    · have := lss_asymm h
      simp [h, this, he]
theorem rdP {l : List Pr} {i : Nat} {e : Pr} (h : l[i]? = some e) : rd_T66 l (i : Int) = e := by
  simp [rd_T66, List.getD_eq_getElem?_getD, h]
theorem w1 {i : Nat} (h : i ≤ 10000000) : wrap64 ((i : Int) + 1) = ((i + 1 : Nat) : Int) := by unfold wrap64; omega
theorem mid_eq {i j : Nat} (h : i + j ≤ 100000) : wrap64 ((IntKind.u64.wrap (wrap64 ((i : Int) + (j : Int)))) / 2) = (((i + j) / 2 : Nat) : Int) := by
  have h1 : wrap64 ((i : Int) + (j : Int)) = ((i + j : Nat) : Int) := by unfold wrap64; omega
  have h2 : IntKind.u64.wrap ((i + j : Nat) : Int) = ((i + j : Nat) : Int) := by rw [IntKind.wrap_u64]; omega
  rw [h1, h2]
  unfold wrap64
  omega
theorem search_l0 (l : List Pr) (key : ByteArray) (hS : Sorted l) (hl : l.length ≤ 1000) : ∀ d i j, i + d = j → j ≤ l.length → ∀ (k : Nat), d < k → i ≤ place l key → place l key ≤ j →
    keys_Value_string.l0 k l key (l.length : Int) (i : Int) (j : Int) = some ((place l key : Int), there l key) := by
  intro d
  induction d using Nat.strongRecOn with
  | ind d ih =>
    intro i j hij hj k hk h1 h2
    obtain ⟨k, rfl⟩ : ∃ m, k = m + 1 := ⟨k - 1, by omega⟩
    obtain ⟨hsp1, hsp2⟩ := place_split hS key
    by_cases hd : d = 0
    · subst hd
      have hp : place l key = i := by omega
      rw [keys_Value_string.l0, if_neg (by omega)]
      unfold there thereAt
      rw [hp]
      by_cases hlt : i < l.length
      · obtain ⟨e, he⟩ : ∃ e, l[i]? = some e := ⟨l[i], by simp [hlt]⟩
        rw [if_pos (by omega), if_pos (by omega), if_pos (by omega), rdP he, he]
        simp only [keys_Value_find_1.f, cmp_f, Option.bind_some, cmp_eq0]
      · rw [if_neg (by omega), List.getElem?_eq_none (by omega)]
    · have hm1 : (i + j) / 2 < l.length := by omega
      obtain ⟨e, he⟩ : ∃ e, l[(i + j) / 2]? = some e := ⟨l[(i + j) / 2], by simp [hm1]⟩
      rw [keys_Value_string.l0, if_pos (by omega)]
      simp only [mid_eq (show i + j ≤ 100000 by omega)]
      rw [if_pos (by omega), if_pos (by omega), rdP he]
      simp only [keys_Value_find_1.f, cmp_f, Option.bind_some]
      by_cases hc : lss e.f0 key = true
      · rw [if_pos ((cmp_lss _ _).2 hc), w1 (by omega)]
        refine ih (j - ((i + j) / 2 + 1)) (by omega) _ j (by omega) hj k (by omega) ?_ h2
        rcases Nat.lt_or_ge ((i + j) / 2) (place l key) with h | h
        · omega
        · exfalso
          have := hsp2 e (List.mem_of_getElem? (i := (i + j) / 2 - place l key) (by rw [List.getElem?_drop]; rw [show place l key + ((i + j) / 2 - place l key) = (i + j) / 2 by omega]; exact he))
          rw [this] at hc
          cases hc
      · rw [if_neg (fun h => hc ((cmp_lss _ _).1 h))]
        refine ih ((i + j) / 2 - i) (by omega) i _ (by omega) (by omega) k (by omega) h1 ?_
        rcases Nat.lt_or_ge ((i + j) / 2) (place l key) with h | h
        · exfalso
          exact hc (hsp1 e (List.mem_of_getElem? (i := (i + j) / 2) (by rw [List.getElem?_take_of_lt h]; exact he)))
        · exact h
theorem find_f (l : List Pr) (key : ByteArray) (hS : Sorted l) (hl : l.length ≤ 1000) : keys_Value_string.f (l.length + 1) l key = some ((place l key : Int), there l key) := by
  have := search_l0 l key hS hl l.length 0 l.length (by omega) (Nat.le_refl _) (l.length + 1) (by omega) (Nat.zero_le _) (place_le l key)
  unfold keys_Value_string.f
  exact this
/-- What Set makes of a row: the key's value, or the key and its value in its place. -/
def putV (l : List Pr) (n : Nat) (x : S32) : List Pr := match l[n]? with
  | some e => l.set n ⟨e.f0, x⟩
  | none => l
def put (l : List Pr) (k : ByteArray) (x : S32) : List Pr :=
  if there l k = true then putV l (place l k) x else putV (insP l (place l k) ⟨k, z32⟩) (place l k) x
theorem insP_at (l : List Pr) (n : Nat) (p : Pr) (h : n ≤ l.length) : (insP l n p)[n]? = some p := by
  unfold insP
  rw [List.getElem?_append_right (by simp; omega)]
  simp [Nat.min_eq_left h]
theorem putV_ins (l : List Pr) (n : Nat) (k : ByteArray) (y x : S32) (h : n ≤ l.length) : putV (insP l n ⟨k, y⟩) n x = insP l n ⟨k, x⟩ := by
  unfold putV
  rw [insP_at l n _ h]
  unfold insP
  dsimp only
  rw [List.set_append_right _ _ (by simp; omega)]
  simp [Nat.min_eq_left h]
theorem put_new {l : List Pr} {k : ByteArray} {x : S32} (h : there l k = false) : put l k x = insP l (place l k) ⟨k, x⟩ := by
  unfold put
  rw [if_neg (by rw [h]; simp), putV_ins _ _ _ _ _ (place_le l k)]
theorem put_old {l : List Pr} {k : ByteArray} {x : S32} (h : there l k = true) : put l k x = l.set (place l k) ⟨k, x⟩ := by
  obtain ⟨e, he, hk⟩ := there_lt h
  unfold put putV
  rw [if_pos h, he]
  dsimp only
  rw [hk]
theorem put_keys_old {l : List Pr} {k : ByteArray} {x : S32} (h : there l k = true) : (put l k x).map (·.f0) = l.map (·.f0) := by
  obtain ⟨e, he, hk⟩ := there_lt h
  rw [put_old h, List.map_set]
  apply List.ext_getElem?
  intro j
  rw [List.getElem?_set]
  split
  · rename_i hj
    subst hj
    obtain ⟨hl, h2⟩ := List.getElem?_eq_some_iff.1 he
    rw [List.getElem?_map, he]
    simp [hl, hk]
  · rfl
theorem sorted_map {l : List Pr} : Sorted l ↔ (l.map (·.f0)).Pairwise fun a b => lss a b = true := by
  unfold Sorted
  rw [List.pairwise_map]
theorem put_sorted {l : List Pr} (h : Sorted l) (k : ByteArray) (x : S32) : Sorted (put l k x) := by
  cases ht : there l k
  · rw [put_new ht]
    exact ins_sorted (e := ⟨k, x⟩) h ht
  · rw [sorted_map, put_keys_old ht, ← sorted_map]
    exact h
theorem put_length (l : List Pr) (k : ByteArray) (x : S32) : (put l k x).length ≤ l.length + 1 := by
  cases ht : there l k
  · rw [put_new ht, insP_length _ _ _ (place_le l k)]
    exact Nat.le_refl _
  · rw [put_old ht, List.length_set]
    omega
/-- Whatever holds of the old pairs and of the new one holds of all. -/
theorem put_all {l : List Pr} {k : ByteArray} {x : S32} {p : Pr → Prop} (h : ∀ e ∈ l, p e) (hx : p ⟨k, x⟩) : ∀ e ∈ put l k x, p e := by
  intro e he
  cases ht : there l k
  · rw [put_new ht] at he
    rcases mem_ins.1 he with rfl | he
    · exact hx
    · exact h e he
  · rw [put_old ht] at he
    rcases List.mem_or_eq_of_mem_set he with he | rfl
    · exact h e he
    · exact hx
end MP
end Go.Proofs.YtfaabbimbjegmaaDoor

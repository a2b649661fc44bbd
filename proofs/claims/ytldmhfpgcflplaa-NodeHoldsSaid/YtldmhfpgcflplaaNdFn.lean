/-
  What the printed functions of nodes compute, plainly.
-/
import Derived.Test.YtldmhfpgcflplaaPAx10
import Derived.Test.YtldmhfpgcflplaaPAx6
import Derived.Test.YtldmhfpgcflplaaPAx7
import Derived.Test.YtldmhfpgcflplaaPAx9
import Derived.Test.YtldmhfpgcflplaaNdPlain
set_option linter.unusedVariables false
set_option linter.unusedSimpArgs false
namespace Go.Proofs.Ytldmhfpgcflplaa
open Go Go.RowKit Go.Proofs.Ytldmhfpgcflplaa.PA Go.Proofs.YtldmhfpgcflplaaW.PrintWords NdP

def c44 (e : Ent) : S44 := ⟨e.k, e.v, e.m⟩
def c56 (e : Ent) : S56 := ⟨e.k, e.v, e.m⟩
/-- From some count of rounds on the answer is r. -/
def Evt {α : Type} (g : Nat → Option α) (r : α) : Prop := ∃ K, ∀ k, K < k → g k = some r
theorem Evt.one {α : Type} {g : Nat → Option α} {r : α} (h : Evt g r) : ∃ k, g k = some r := by
  obtain ⟨K, h⟩ := h
  exact ⟨K + 1, h _ (by omega)⟩
/-- Few entries, none of them long. -/
def Small (l : List Ent) : Prop := l.length ≤ 1000 ∧ ∀ e ∈ l, e.k.size ≤ 1000 ∧ e.v.size ≤ 1000

theorem rd44 {l : List Ent} {i : Nat} {e : Ent} (h : l[i]? = some e) : rd_T44 (l.map c44) (i : Int) = c44 e := by
  simp [rd_T44, List.getD_eq_getElem?_getD, h]
theorem rd56 {l : List Ent} {i : Nat} {e : Ent} (h : l[i]? = some e) : rd_T56 (l.map c56) (i : Int) = c56 e := by
  simp [rd_T56, List.getD_eq_getElem?_getD, h]
theorem w1 {i : Nat} (h : i ≤ 10000000) : wrap64 ((i : Int) + 1) = ((i + 1 : Nat) : Int) := by unfold wrap64; omega
theorem wsz {e : Ent} (h : e.k.size ≤ 1000 ∧ e.v.size ≤ 1000) : wrap64 ((wrap64 (3 + (e.k.size : Int))) + (e.v.size : Int)) = (size e : Int) := by
  have h1 : wrap64 (3 + (e.k.size : Int)) = 3 + (e.k.size : Int) := by unfold wrap64; omega
  rw [h1]
  unfold size wrap64
  omega
theorem small_sizes : ∀ {l : List Ent}, (∀ e ∈ l, e.k.size ≤ 1000 ∧ e.v.size ≤ 1000) → sizes l ≤ 2003 * l.length
  | [], _ => by simp [sizes]
  | e :: l, h => by
    have h1 := h e (by simp)
    have h2 := small_sizes (l := l) fun x hx => h x (by simp [hx])
    rw [sizes_cons]
    unfold size
    simp only [List.length_cons]
    omega
theorem size_f {e : Ent} (h : e.k.size ≤ 1000 ∧ e.v.size ≤ 1000) : page_Size.f e.k e.v e.m = some (size e : Int) := by
  unfold page_Size.f
  rw [wsz h]
theorem drop_at {l : List Ent} {i : Nat} {e : Ent} (h : l[i]? = some e) : l.drop i = e :: l.drop (i + 1) := by
  obtain ⟨hl, he⟩ := List.getElem?_eq_some_iff.1 h
  rw [List.drop_eq_getElem_cons hl, he]
theorem small_drop {l : List Ent} (h : ∀ e ∈ l, e.k.size ≤ 1000 ∧ e.v.size ≤ 1000) (i : Nat) : ∀ e ∈ l.drop i, e.k.size ≤ 1000 ∧ e.v.size ≤ 1000 := fun e he => h e (List.mem_of_mem_drop he)

theorem free_l0 (l : List Ent) (hs : Small l) : ∀ d i, i + d = l.length → ∀ (n : Int) (k : Nat), d < k → -5000000 ≤ n - sizes (l.drop i) → n ≤ 5000000 →
    page_Free.l0 k n (l.map c44) (l.length : Int) (i : Int) = some (n - (sizes (l.drop i) : Int)) := by
  intro d
  induction d with
  | zero =>
    intro i hi n k hk h1 h2
    obtain ⟨k, rfl⟩ : ∃ m, k = m + 1 := ⟨k - 1, by omega⟩
    rw [page_Free.l0, if_neg (by omega), List.drop_eq_nil_of_le (by omega)]
    simp [sizes]
  | succ d ih =>
    intro i hi n k hk h1 h2
    obtain ⟨k, rfl⟩ : ∃ m, k = m + 1 := ⟨k - 1, by omega⟩
    obtain ⟨e, he⟩ : ∃ e, l[i]? = some e := ⟨l[i], by simp [show i < l.length by omega]⟩
    have hsm := hs.2 e (List.mem_of_getElem? he)
    have hl := hs.1
    rw [drop_at he, sizes_cons] at h1
    have hw : wrap64 (n - (size e : Int)) = n - (size e : Int) := by unfold wrap64; omega
    rw [page_Free.l0, if_pos (by omega), if_pos (by omega), if_pos (by simp; omega), rd44 he]
    simp only [c44]
    rw [size_f hsm]
    simp only [Option.bind_some]
    rw [hw, w1 (by omega), ih (i + 1) (by omega) _ k (by omega) (by omega) (by omega), drop_at he, sizes_cons]
    congr 1
    omega
theorem free_f (p : Pg) (hs : Small p.es) (hh : p.high.size ≤ 1000) (a b c d : Int) : Evt (fun k => page_Free.f k a b c d p.high (p.es.map c44)) (free p) := by
  refine ⟨p.es.length, fun k hk => ?_⟩
  dsimp only
  have hb := small_sizes hs.2
  have hl := hs.1
  have hw : wrap64 (489 - (p.high.size : Int)) = 489 - (p.high.size : Int) := by unfold wrap64; omega
  have := free_l0 p.es hs p.es.length 0 (by omega) (489 - (p.high.size : Int)) k (by omega) (by rw [List.drop_zero]; omega) (by omega)
  unfold page_Free.f
  rw [hw, List.length_map, show (0 : Int) = ((0 : Nat) : Int) from rfl, this, List.drop_zero]
  rfl

theorem rfree_l0 (l : List Ent) (hs : Small l) (a b c e' : Int) (hi' : ByteArray) : ∀ d i, i + d = l.length → ∀ (n : Int) (k : Nat), d < k → -5000000 ≤ n - sizes (l.drop i) → n ≤ 5000000 →
    concordanceref05_Free.l0 k n (i : Int) a b c e' hi' (l.map c56) = some (n - (sizes (l.drop i) : Int)) := by
  intro d
  induction d with
  | zero =>
    intro i hi n k hk h1 h2
    obtain ⟨k, rfl⟩ : ∃ m, k = m + 1 := ⟨k - 1, by omega⟩
    rw [concordanceref05_Free.l0, if_neg (by simp; omega), List.drop_eq_nil_of_le (by omega)]
    simp [sizes]
  | succ d ih =>
    intro i hi n k hk h1 h2
    obtain ⟨k, rfl⟩ : ∃ m, k = m + 1 := ⟨k - 1, by omega⟩
    obtain ⟨e, he⟩ : ∃ e, l[i]? = some e := ⟨l[i], by simp [show i < l.length by omega]⟩
    have hsm := hs.2 e (List.mem_of_getElem? he)
    have hl := hs.1
    rw [drop_at he, sizes_cons] at h1
    have hw : wrap64 (n - (size e : Int)) = n - (size e : Int) := by unfold wrap64; omega
    rw [concordanceref05_Free.l0, if_pos (by simp; omega), if_pos (by omega), rd56 he]
    simp only [c56]
    rw [wsz hsm, hw, w1 (by omega), ih (i + 1) (by omega) _ k (by omega) (by omega) (by omega), drop_at he, sizes_cons]
    congr 1
    omega
theorem rfree_f (p : Pg) (hs : Small p.es) (hh : p.high.size ≤ 1000) (a b c d : Int) : Evt (fun k => concordanceref05_Free.f k a b c d p.high (p.es.map c56)) (free p) := by
  refine ⟨p.es.length, fun k hk => ?_⟩
  dsimp only
  have hb := small_sizes hs.2
  have hl := hs.1
  have hw : wrap64 (489 - (p.high.size : Int)) = 489 - (p.high.size : Int) := by unfold wrap64; omega
  have := rfree_l0 p.es hs a b c d p.high p.es.length 0 (by omega) (489 - (p.high.size : Int)) k (by omega) (by rw [List.drop_zero]; omega) (by omega)
  unfold concordanceref05_Free.f
  rw [hw, show (0 : Int) = ((0 : Nat) : Int) from rfl, this, List.drop_zero]
  rfl
theorem sizes_l0 (l : List Ent) (hs : Small l) : ∀ d i, i + d = l.length → ∀ (n : Nat) (k : Nat), d < k → n + sizes (l.drop i) ≤ 5000000 →
    concordanceref13_Sizes.l0 k (l.map c56) (n : Int) (i : Int) = some ((n + sizes (l.drop i) : Nat) : Int) := by
  intro d
  induction d with
  | zero =>
    intro i hi n k hk h1
    obtain ⟨k, rfl⟩ : ∃ m, k = m + 1 := ⟨k - 1, by omega⟩
    rw [concordanceref13_Sizes.l0, if_neg (by simp; omega), List.drop_eq_nil_of_le (by omega)]
    simp [sizes]
  | succ d ih =>
    intro i hi n k hk h1
    obtain ⟨k, rfl⟩ : ∃ m, k = m + 1 := ⟨k - 1, by omega⟩
    obtain ⟨e, he⟩ : ∃ e, l[i]? = some e := ⟨l[i], by simp [show i < l.length by omega]⟩
    have hsm := hs.2 e (List.mem_of_getElem? he)
    have hl := hs.1
    rw [drop_at he, sizes_cons] at h1
    have hw : wrap64 ((n : Int) + (size e : Int)) = ((n + size e : Nat) : Int) := by unfold wrap64; omega
    rw [concordanceref13_Sizes.l0, if_pos (by simp; omega), if_pos (by omega), rd56 he]
    simp only [c56]
    rw [wsz hsm, hw, w1 (by omega), ih (i + 1) (by omega) _ k (by omega) (by omega), drop_at he, sizes_cons]
    congr 2
    omega
theorem sizes_f (l : List Ent) (hs : Small l) : Evt (fun k => concordanceref13_Sizes.f k (l.map c56)) (sizes l : Int) := by
  refine ⟨l.length, fun k hk => ?_⟩
  dsimp only
  have hb := small_sizes hs.2
  have hl := hs.1
  have := sizes_l0 l hs l.length 0 (by omega) 0 k (by omega) (by rw [List.drop_zero]; omega)
  unfold concordanceref13_Sizes.f
  rw [show (0 : Int) = ((0 : Nat) : Int) from rfl, this, List.drop_zero, Nat.zero_add]

theorem place_l0 (l : List Ent) (key : ByteArray) (hl : l.length ≤ 1000) (a b c e' : Int) (hi' : ByteArray) : ∀ d i, i + d = l.length → ∀ (n : Nat) (k : Nat), d < k → n + place (l.drop i) key = place l key →
    concordanceref13_Place.l0 k key (n : Int) (i : Int) a b c e' hi' (l.map c56) = some ((place l key : Int), there l key) := by
  intro d
  induction d with
  | zero =>
    intro i hi n k hk h1
    obtain ⟨k, rfl⟩ : ∃ m, k = m + 1 := ⟨k - 1, by omega⟩
    rw [List.drop_eq_nil_of_le (by omega)] at h1
    have hn : n = place l key := by simpa [place] using h1
    subst hn
    have hpl := place_le l key
    rw [concordanceref13_Place.l0, if_neg (by simp; omega)]
    by_cases hlt : place l key < l.length
    · obtain ⟨e, he⟩ : ∃ e, l[place l key]? = some e := ⟨l[place l key], by simp [hlt]⟩
      rw [if_pos (by simp; omega), if_pos (by omega), rd56 he]
      unfold there thereAt
      rw [he]
      simp only [c56]
      congr 2
      rw [Bool.eq_iff_iff]
      simp only [beq_iff_eq, decide_eq_true_eq]
      exact ⟨ext_toList, fun h => by rw [h]⟩
    · rw [if_neg (by simp; omega)]
      unfold there thereAt
      rw [List.getElem?_eq_none (by omega)]
  | succ d ih =>
    intro i hi n k hk h1
    obtain ⟨k, rfl⟩ : ∃ m, k = m + 1 := ⟨k - 1, by omega⟩
    obtain ⟨e, he⟩ : ∃ e, l[i]? = some e := ⟨l[i], by simp [show i < l.length by omega]⟩
    have hpl := place_le l key
    rw [drop_at he] at h1
    rw [concordanceref13_Place.l0, if_pos (by simp; omega), if_pos (by omega), rd56 he]
    by_cases hk' : lss e.k key = true
    · have hp : place (e :: l.drop (i + 1)) key = place (l.drop (i + 1)) key + 1 := by simp [place, List.filter_cons, hk']
      rw [if_pos (show Op.bytesLess ((c56 e).f0).toList key.toList = true from hk'), w1 (by omega), w1 (by omega)]
      exact ih (i + 1) (by omega) (n + 1) k (by omega) (by omega)
    · have hp : place (e :: l.drop (i + 1)) key = place (l.drop (i + 1)) key := by simp [place, List.filter_cons, hk']
      rw [if_neg (show ¬ Op.bytesLess ((c56 e).f0).toList key.toList = true from hk'), w1 (by omega)]
      exact ih (i + 1) (by omega) n k (by omega) (by omega)
theorem place_f (l : List Ent) (key : ByteArray) (hl : l.length ≤ 1000) (a b c d : Int) (h : ByteArray) : Evt (fun k => concordanceref13_Place.f k a b c d h (l.map c56) key) ((place l key : Int), there l key) :=
  ⟨l.length, fun k hk => place_l0 l key hl a b c d h l.length 0 (by omega) 0 k (by omega) (by simp)⟩

/-! ### The binary search -/
theorem mid_eq {i j : Nat} (h : i + j ≤ 100000) : wrap64 ((IntKind.u64.wrap (wrap64 ((i : Int) + (j : Int)))) / 2) = (((i + j) / 2 : Nat) : Int) := by
  have h1 : wrap64 ((i : Int) + (j : Int)) = ((i + j : Nat) : Int) := by unfold wrap64; omega
  have h2 : IntKind.u64.wrap (((i + j : Nat) : Int)) = ((i + j : Nat) : Int) := by
    simp only [IntKind.wrap, IntKind.signed, IntKind.bits]
    simp
    omega
  rw [h1, h2]
  unfold wrap64
  omega
theorem cmp_lss (a b : ByteArray) : Lib.compareBytes a.data.toList b.data.toList < 0 ↔ lss a b = true := by
  unfold lss
  rw [cmp_neg, toList_data, toList_data]
theorem cmp_eq0 (a b : ByteArray) : (Lib.compareBytes a.data.toList b.data.toList == 0) = decide (a = b) := by
  rw [Bool.eq_iff_iff]
  simp only [beq_iff_eq, decide_eq_true_eq, cmp_zero]
  constructor
  · intro h
    exact ext_toList (by rw [toList_data, toList_data, h])
  · intro h
    rw [h]
theorem search_l0 (l : List Ent) (key : ByteArray) (hS : Sorted l) (hl : l.length ≤ 1000) : ∀ d i j, i + d = j → j ≤ l.length → ∀ (k : Nat), d < k → i ≤ place l key → place l key ≤ j →
    page_Entry_string.l0 k (l.map c44) key (l.length : Int) (i : Int) (j : Int) = some ((place l key : Int), there l key) := by
  intro d
  induction d using Nat.strongRecOn with
  | ind d ih =>
    intro i j hij hj k hk h1 h2
    obtain ⟨k, rfl⟩ : ∃ m, k = m + 1 := ⟨k - 1, by omega⟩
    obtain ⟨hsp1, hsp2⟩ := place_split hS key
    by_cases hd : d = 0
    · subst hd
      have hp : place l key = i := by omega
      rw [page_Entry_string.l0, if_neg (by omega)]
      unfold there thereAt
      rw [hp]
      by_cases hlt : i < l.length
      · obtain ⟨e, he⟩ : ∃ e, l[i]? = some e := ⟨l[i], by simp [hlt]⟩
        rw [if_pos (by omega), if_pos (by omega), if_pos (by simp; omega), rd44 he, he]
        simp only [c44, node_Find_1.f, strings_Compare.f, Option.bind_some, cmp_eq0]
      · rw [if_neg (by omega), List.getElem?_eq_none (by omega)]
    · have hm1 : (i + j) / 2 < l.length := by omega
      obtain ⟨e, he⟩ : ∃ e, l[(i + j) / 2]? = some e := ⟨l[(i + j) / 2], by simp [hm1]⟩
      rw [page_Entry_string.l0, if_pos (by omega)]
      simp only [mid_eq (show i + j ≤ 100000 by omega)]
      rw [if_pos (by omega), if_pos (by simp; omega), rd44 he]
      simp only [c44, node_Find_1.f, strings_Compare.f, Option.bind_some]
      by_cases hc : lss e.k key = true
      · rw [if_pos ((cmp_lss _ _).2 hc), w1 (by omega)]
        refine ih (j - ((i + j) / 2 + 1)) (by omega) _ j (by omega) hj k (by omega) ?_ h2
        rcases Nat.lt_or_ge ((i + j) / 2) (place l key) with h | h
        · omega
        · exfalso
          have := hsp2 e (List.mem_of_getElem? (i := (i + j) / 2 - place l key) (by rw [List.getElem?_drop]; rw [show place l key + ((i + j) / 2 - place l key) = (i + j) / 2 by omega]; exact he))
          rw [this] at hc
          cases hc
      · rw [if_neg (fun h => hc ((cmp_lss _ _).1 h))]
        refine ih ((i + j) / 2 - i) (by omega) i _ (by omega) (by omega) k (by omega) h1 ?_
        rcases Nat.lt_or_ge ((i + j) / 2) (place l key) with h | h
        · exfalso
          exact hc (hsp1 e (List.mem_of_getElem? (i := (i + j) / 2) (by rw [List.getElem?_take_of_lt h]; exact he)))
        · exact h
theorem find_f (l : List Ent) (key : ByteArray) (hS : Sorted l) (hl : l.length ≤ 1000) (a b c d : Int) (h : ByteArray) : Evt (fun k => node_Find.f k a b c d h (l.map c44) key) ((place l key : Int), there l key) := by
  refine ⟨l.length, fun k hk => ?_⟩
  dsimp only
  have := search_l0 l key hS hl l.length 0 l.length (by omega) (Nat.le_refl _) k (by omega) (Nat.zero_le _) (place_le l key)
  unfold node_Find.f page_Entry_string.f
  rw [List.length_map, show (0 : Int) = ((0 : Nat) : Int) from rfl, this]
  rfl
end Go.Proofs.Ytldmhfpgcflplaa

/-
  What is put in and taken out, or marked and unmarked, plainly.
-/
import Derived.Test.YtldmhfpgcflplaaNdSpk
set_option linter.unusedVariables false
set_option linter.unusedSimpArgs false
namespace Go.Proofs.Ytldmhfpgcflplaa
open Go Go.RowKit Go.Proofs.Ytldmhfpgcflplaa.PA Go.Proofs.YtldmhfpgcflplaaW.PrintWords NdP

theorem erase_mid (l : List Ent) (n : Nat) (hn : n ≤ l.length) (e : Ent) : (l.take n ++ e :: l.drop n).eraseIdx n = l := by
  rw [List.eraseIdx_eq_take_drop_succ, List.take_append_of_le_length (by rw [List.length_take]; omega), List.take_take, Nat.min_self]
  have : (l.take n ++ e :: l.drop n).drop (n + 1) = l.drop n := by
    rw [List.drop_append, List.length_take, Nat.min_eq_left hn, List.drop_eq_nil_of_le (by rw [List.length_take]; omega)]
    have : n + 1 - n = 1 := by omega
    rw [this]
    rfl
  rw [this, List.take_append_drop]
theorem place_mid {l : List Ent} (h : Sorted l) (e : Ent) : place (l.take (place l e.k) ++ e :: l.drop (place l e.k)) e.k = place l e.k := by
  have hn := place_le l e.k
  have hs := place_split h e.k
  generalize place l e.k = n at *
  have h1 : (l.take n ++ e :: l.drop n).take n = l.take n := by
    rw [List.take_append_of_le_length (by rw [List.length_take]; omega), List.take_take, Nat.min_self]
  have h2 : (l.take n ++ e :: l.drop n).drop n = e :: l.drop n := by
    rw [List.drop_append, List.length_take, Nat.min_eq_left hn, List.drop_eq_nil_of_le (by rw [List.length_take]; omega), Nat.sub_self]
    rfl
  refine place_of_split (by rw [List.length_append, List.length_take, List.length_cons, List.length_drop]; omega) (by rw [h1]; exact hs.1) ?_
  rw [h2]
  intro x hx
  rcases List.mem_cons.1 hx with rfl | hx
  · exact lss_irrefl _
  · exact hs.2 x hx
/-- What is put in can be taken out again; what was there is left. -/
theorem ins_rem {p q : Pg} {e : Ent} (hS : Sorted p.es) (h : ins p e = (q, 0)) :
    Sorted q.es ∧ rem q e.k = (p, 0) ∧ free q = free p - (size e : Int) ∧ q.es.length = p.es.length + 1 := by
  obtain ⟨h1, h2, h3, h4, h5, rfl⟩ := ins_ok h
  have hn := place_le p.es e.k
  have hso := ins_sorted hS h4
  refine ⟨hso, ?_, ?_, ?_⟩
  · unfold rem
    have ht : there (p.es.take (place p.es e.k) ++ e :: p.es.drop (place p.es e.k)) e.k = true := (there_iff hso).2 ⟨e, by simp, rfl⟩
    rw [if_neg (by show ¬ there (p.es.take (place p.es e.k) ++ e :: p.es.drop (place p.es e.k)) e.k = false; rw [ht]; simp)]
    show (({ p with es := (p.es.take (place p.es e.k) ++ e :: p.es.drop (place p.es e.k)).eraseIdx (place (p.es.take (place p.es e.k) ++ e :: p.es.drop (place p.es e.k)) e.k) } : Pg), (0 : Int)) = (p, 0)
    rw [place_mid hS, erase_mid _ _ hn]
  · show 489 - (p.high.size : Int) - (sizes (p.es.take (place p.es e.k) ++ e :: p.es.drop (place p.es e.k)) : Int) = 489 - (p.high.size : Int) - (sizes p.es : Int) - (size e : Int)
    rw [sizes_ins]
    omega
  · show (p.es.take (place p.es e.k) ++ e :: p.es.drop (place p.es e.k)).length = p.es.length + 1
    rw [List.length_append, List.length_take, List.length_cons, List.length_drop]
    omega
def keys (l : List Ent) : List ByteArray := l.map fun e => e.k
theorem keys_set (l : List Ent) (n : Nat) (e : Ent) (b : Bool) (h : l[n]? = some e) : keys (l.set n { e with m := b }) = keys l := by
  unfold keys
  rw [List.map_set]
  refine List.ext_getElem? fun i => ?_
  rw [List.getElem?_set]
  split
  · next hi =>
    subst hi
    have hlt : n < l.length := by
      rcases Nat.lt_or_ge n l.length with h' | h'
      · exact h'
      · rw [List.getElem?_eq_none h'] at h; cases h
    rw [if_pos (by rw [List.length_map]; exact hlt), List.getElem?_map, h]
    rfl
  · rfl
theorem sorted_keys {l m : List Ent} (h : keys l = keys m) (hl : Sorted l) : Sorted m := by
  have h1 : (keys l).Pairwise fun a b => lss a b = true := List.pairwise_map.2 hl
  rw [h] at h1
  exact List.pairwise_map.1 h1
theorem place_keys : ∀ {l m : List Ent}, keys l = keys m → ∀ key, place l key = place m key := by
  intro l m h key
  have hp : ∀ l : List Ent, place l key = ((keys l).filter fun k => lss k key).length := by
    intro l
    unfold place keys
    rw [List.filter_map, List.length_map]
    rfl
  rw [hp, hp, h]
theorem there_keys {l m : List Ent} (hl : Sorted l) (h : keys l = keys m) (key : ByteArray) : there m key = there l key := by
  have hm := sorted_keys h hl
  have hk : ∀ l : List Ent, (∃ e ∈ l, e.k = key) ↔ key ∈ keys l := by
    intro l
    unfold keys
    rw [List.mem_map]
  have h1 : there m key = true ↔ there l key = true := by rw [there_iff hm, there_iff hl, hk, hk, h]
  cases ha : there l key <;> cases hb : there m key <;> simp_all
theorem sizes_set (l : List Ent) (n : Nat) (e : Ent) (b : Bool) (h : l[n]? = some e) : sizes (l.set n { e with m := b }) = sizes l := by
  induction l generalizing n with
  | nil => cases h
  | cons x l ih =>
    cases n with
    | zero =>
      have h : some x = some e := h
      injection h with h
      subst h
      rw [List.set_cons_zero, sizes_cons, sizes_cons]
      rfl
    | succ n =>
      rw [List.set_cons_succ, sizes_cons, sizes_cons, ih n h]
/-- A mark that is turned and turned again. -/
theorem mark_back {p : Pg} {key : ByteArray} {e : Ent} (hS : Sorted p.es) (ht : there p.es key = true) (he : p.es[place p.es key]? = some e) :
    ∃ q : Pg, NdP.mark p key (!e.m) = (q, 0) ∧ NdP.mark q key e.m = (p, 0) ∧ free q = free p ∧ Sorted q.es ∧ q.es.length = p.es.length ∧ (Small p.es → Small q.es) ∧ q.high = p.high := by
  have hk := keys_set p.es (place p.es key) e (!e.m) he
  have hlt : place p.es key < p.es.length := by
    rcases Nat.lt_or_ge (place p.es key) p.es.length with h' | h'
    · exact h'
    · rw [List.getElem?_eq_none h'] at he; cases he
  have hp := place_keys hk key
  refine ⟨{ p with es := p.es.set (place p.es key) { e with m := !e.m } }, ?_, ?_, ?_, sorted_keys hk.symm hS, List.length_set, ?_, rfl⟩
  · unfold NdP.mark
    rw [if_neg (by rw [ht]; simp), if_neg (by unfold markAt; rw [he]; simp)]
    unfold setMark
    rw [he]
  · unfold NdP.mark
    have hg : (p.es.set (place p.es key) { e with m := !e.m })[place p.es key]? = some { e with m := !e.m } := by
      rw [List.getElem?_set_self hlt]
    rw [if_neg (by show ¬ there (p.es.set (place p.es key) { e with m := !e.m }) key = false; rw [there_keys hS hk.symm, ht]; simp)]
    show (if markAt (p.es.set (place p.es key) { e with m := !e.m }) (place (p.es.set (place p.es key) { e with m := !e.m }) key) = e.m then (zero, (17 : Int)) else ({ p with es := setMark (p.es.set (place p.es key) { e with m := !e.m }) (place (p.es.set (place p.es key) { e with m := !e.m }) key) e.m }, 0)) = (p, 0)
    rw [hp, if_neg (by unfold markAt; rw [hg]; simp)]
    unfold setMark
    rw [hg]
    show (({ p with es := (p.es.set (place p.es key) { e with m := !e.m }).set (place p.es key) { e with m := e.m } } : Pg), (0 : Int)) = (p, 0)
    rw [List.set_set]
    have : p.es.set (place p.es key) { e with m := e.m } = p.es := by
      refine List.ext_getElem? fun i => ?_
      rw [List.getElem?_set]
      split
      · next hi => subst hi; exact he.symm
      · rfl
    rw [this]
  · show 489 - (p.high.size : Int) - (sizes (p.es.set (place p.es key) { e with m := !e.m }) : Int) = 489 - (p.high.size : Int) - (sizes p.es : Int)
    rw [sizes_set _ _ _ _ he]
  · intro hs
    refine ⟨by show (p.es.set _ _).length ≤ 1000; rw [List.length_set]; exact hs.1, fun x hx => ?_⟩
    rcases List.mem_or_eq_of_mem_set hx with h | h
    · exact hs.2 x h
    · subst h
      exact hs.2 e (List.mem_of_getElem? he)
end Go.Proofs.Ytldmhfpgcflplaa

/-
  A node's keys in a map; what putting in and taking out does to a node of small entries.
-/
import Derived.Test.YtldmhfpgcflplaaNdBkP
import Derived.Test.YtldmhfpgcflplaaNdTuP
import Derived.Maps.OwnSet
import Derived.Maps.Views
import Derived.Maps.OwnOps
import Derived.StringKeys
set_option linter.unusedVariables false
set_option linter.unusedSimpArgs false
namespace Go.Proofs.Ytldmhfpgcflplaa
open Go Go.RowKit Go.Maps Go.Proofs.Ytldmhfpgcflplaa.PA Go.Proofs.YtldmhfpgcflplaaW.PrintWords NdP

abbrev DU := DataW Unit
def mkl (k : ByteArray) : Lit := .string k.data.toList
theorem mkl_ne {a b : ByteArray} (h : a ≠ b) : mkl a ≠ mkl b := fun e => h (by
  unfold mkl at e
  injection e with e
  exact ByteArray.ext (Array.ext' e))
theorem mkl_key (k : ByteArray) : WideAt.IsKeyLit (mkl k) := trivial
theorem key_law : Keyed Try.prog 9 := string_keyed Try.underlying9
def tf (b : Bool) : DU := .lit (.bool b)
/-- A map of at most n entries that says true at just the keys of a list. -/
def Mp (w : World) (B n : Nat) (l : List Ent) : Prop := ∃ D : DU, w.ownsMap Try.prog 9 (plainElem Try.prog 4) B n D ∧ (∀ k, D.atKey (mkl k) (tf false) = tf (there l k)) ∧ (∀ k, Maps.has D (mkl k) = there l k) ∧ Maps.size D = l.length
theorem there_nil (k : ByteArray) : there [] k = false := rfl
theorem mp_made (w : World) : Mp (w.alloc (.map #[] 0)) w.heap.size 0 [] :=
  ⟨.map [], World.ownsMap_made _ _ _ _, fun k => rfl, fun k => rfl, rfl⟩
theorem Mp.kept {w w' : World} {B n : Nat} {l : List Ent} {row : Option Nat} (h : Mp w B n l) (hg : w.grownBy w' row) (hne : some B ≠ row) : Mp w' B n l := by
  obtain ⟨D, h1, h2, h3, h4⟩ := h
  exact ⟨D, h1.kept hg hne, h2, h3, h4⟩
theorem Mp.lt {w : World} {B n : Nat} {l : List Ent} (h : Mp w B n l) : B < w.heap.size := by
  obtain ⟨D, h1, _⟩ := h
  exact h1.lt
theorem Mp.mono {w : World} {B n n' : Nat} {l : List Ent} (h : Mp w B n l) (hn : n ≤ n') : Mp w B n' l := by
  obtain ⟨D, h1, h2, h3, h4⟩ := h
  exact ⟨D, h1.mono hn, h2, h3, h4⟩
theorem Mp.look {w : World} {B n : Nat} {l : List Ent} (h : Mp w B n l) {k : ByteArray} (hk : k.size ≤ 1000) : (Instr.lookup 51 (.map (some B)) (.string k) false).run Try.prog w = .ok (.bool (there l k)) w := by
  obtain ⟨D, h1, h2, h3, h4⟩ := h
  have hz : (zeroValue 4).run Try.prog w = .ok (.bool false) w := by kernel_rfl
  obtain ⟨v, ps, hrun, hv⟩ := h1.lookup key_law Try.underlying51 hz (plainElem_bool Try.underlying4 false) (WideMaps.keyOf_string_mk Try.underlying9 (s := k) (Nat.le_trans hk (by decide)))
  rw [show D.atKey (.string k.data.toList) (.lit (.bool false)) = tf (there l k) from h2 k] at hv
  rw [hrun]
  unfold plainElem at hv
  rw [Try.underlying4] at hv
  cases v <;> simp at hv
  obtain ⟨hv, _⟩ := hv
  unfold tf at hv
  simp at hv
  rw [hv]
theorem Mp.size {w : World} {B n : Nat} {l : List Ent} (h : Mp w B n l) (ty : TypeId) : (Builtin.len_ #[51] ty #[.map (some B)]).run Try.prog w = .ok (.int .i64 l.length) w := by
  obtain ⟨D, h1, h2, h3, h4⟩ := h
  have := h1.len (e := 4) Try.underlying51 ty
  rw [h4] at this
  exact this
theorem Mp.put {w : World} {B n : Nat} {l l' : List Ent} {k : ByteArray} (h : Mp w B n l) (hn : n ≤ 1000) (hk : k.size ≤ 1000) (ht : there l k = false) (hl : l'.length = l.length + 1) (hs : ∀ x, there l' x = (decide (x = k) || there l x)) :
    ∃ w', (Instr.mapUpdate 51 (.map (some B)) (.string k) (.bool true)).run Try.prog w = .ok () w' ∧ Mp w' B (n + 1) l' ∧ w.grownBy w' (some B) := by
  obtain ⟨D, h1, h2, h3, h4⟩ := h
  obtain ⟨w', hrun, ho, hg⟩ := h1.update (d := tf true) (ps := []) (val := .bool true) key_law Try.underlying51 (Nat.lt_of_le_of_lt hn (by decide)) (WideMaps.keyOf_string_mk Try.underlying9 (s := k) (Nat.le_trans hk (by decide))) (plainElem_bool Try.underlying4 true)
  refine ⟨w', hrun, ⟨D.put (mkl k) (tf true), ho, fun x => ?_, fun x => ?_, ?_⟩, hg⟩
  · rw [hs]
    rcases Decidable.em (x = k) with e | e
    · subst e
      rw [atKey_put_same h1.isMap (mkl_key x)]
      simp
    · rw [atKey_put_other (mkl_ne e), h2]
      simp [e]
  · rw [hs]
    rcases Decidable.em (x = k) with e | e
    · subst e
      rw [has_put_same h1.isMap (mkl_key x)]
      simp
    · rw [has_put_other (mkl_ne e), h3]
      simp [e]
  · rw [size_put (h1.tidy key_law), h3, ht, h4, hl]
    rfl
theorem Mp.del {w : World} {B n : Nat} {l l' : List Ent} {k : ByteArray} (h : Mp w B n l) (hk : k.size ≤ 1000) (ht : there l k = true) (hl : l'.length + 1 = l.length) (hs : ∀ x, there l' x = (!decide (x = k) && there l x)) (ty : TypeId) :
    ∃ w', (Builtin.delete_ #[51, 9] ty #[.map (some B), .string k]).run Try.prog w = .ok (.tuple #[]) w' ∧ Mp w' B n l' ∧ w.grownBy w' (some B) := by
  obtain ⟨D, h1, h2, h3, h4⟩ := h
  obtain ⟨w', hrun, ho, hg⟩ := h1.drop key_law Try.underlying51 (WideMaps.keyOf_string_mk Try.underlying9 (s := k) (Nat.le_trans hk (by decide))) ty
  refine ⟨w', hrun, ⟨D.del (mkl k), ho, fun x => ?_, fun x => ?_, ?_⟩, hg.grown⟩
  · rw [hs]
    rcases Decidable.em (x = k) with e | e
    · subst e
      rw [atKey_del_same]
      simp
    · rw [atKey_del_other (mkl_ne e), h2]
      simp [e]
  · rw [hs]
    rcases Decidable.em (x = k) with e | e
    · subst e
      rw [has_del_same]
      simp
    · rw [has_del_other (mkl_ne e), h3]
      simp [e]
  · have := size_del (k := mkl k) (h1.tidy key_law)
    rw [h3, ht, if_pos rfl] at this
    omega

/-- A node of small entries. -/
structure HdP (P : Pg) : Prop where
  form : P.lsn = 0 ∧ P.kind = 3 ∧ P.level = 0 ∧ P.right = 0 ∧ P.high = ⟨#[]⟩
  sorted : Sorted P.es
  each : ∀ e ∈ P.es, e.k.size ≤ 64 ∧ e.v.size ≤ 100
  room : 0 ≤ free P
theorem HdP.start : HdP ⟨0, 3, 0, 0, ⟨#[]⟩, []⟩ := ⟨⟨rfl, rfl, rfl, rfl, rfl⟩, List.Pairwise.nil, by simp, by decide⟩
theorem HdP.right {P : Pg} (h : HdP P) : RightP P :=
  ⟨h.form.2.1, fun hl => by rw [h.form.2.2.1] at hl; exact absurd hl (by decide), h.sorted, fun e _ => covers_nil h.form.2.2.2.2 _, fun hl => by rw [h.form.2.2.1] at hl; exact absurd hl (by decide)⟩
theorem HdP.small {P : Pg} (h : HdP P) (hl : P.es.length ≤ 900) : Small P.es := ⟨by omega, fun e he => by have := h.each e he; omega⟩
theorem there_mem {l : List Ent} (h : Sorted l) (x : ByteArray) : there l x = true ↔ x ∈ keys l := by
  rw [there_iff h]
  unfold keys
  rw [List.mem_map]
theorem there_ins {l : List Ent} (h : Sorted l) {e : Ent} (ht : there l e.k = false) (x : ByteArray) : there (l.take (place l e.k) ++ e :: l.drop (place l e.k)) x = (decide (x = e.k) || there l x) := by
  have h1 := there_mem (ins_sorted h ht) x
  have h2 := there_mem h x
  have h3 : x ∈ keys (l.take (place l e.k) ++ e :: l.drop (place l e.k)) ↔ x = e.k ∨ x ∈ keys l := by
    unfold keys
    rw [List.mem_map, List.mem_map]
    constructor
    · rintro ⟨a, ha, rfl⟩
      rcases mem_ins.1 ha with rfl | ha
      · exact Or.inl rfl
      · exact Or.inr ⟨a, ha, rfl⟩
    · rintro (rfl | ⟨a, ha, rfl⟩)
      · exact ⟨e, mem_ins.2 (Or.inl rfl), rfl⟩
      · exact ⟨a, mem_ins.2 (Or.inr ha), rfl⟩
  cases ha : there (l.take (place l e.k) ++ e :: l.drop (place l e.k)) x <;> cases hb : there l x <;> simp_all
theorem HdP.ins {P : Pg} (h : HdP P) {y : Ent} (hk : y.k.size ≤ 64) (hv : y.v.size ≤ 100) :
    (there P.es y.k = true ∧ ins P y = (zero, 12)) ∨ (there P.es y.k = false ∧ free P < (size y : Int) ∧ ins P y = (zero, 8)) ∨
      (there P.es y.k = false ∧ ∃ q, ins P y = (q, 0) ∧ HdP q ∧ q.es.length = P.es.length + 1 ∧ ∀ x, there q.es x = (decide (x = y.k) || there P.es x)) := by
  have hc : covers P y.k = true := covers_nil h.form.2.2.2.2 _
  cases ht : there P.es y.k
  · by_cases hf : free P < (size y : Int)
    · refine Or.inr (Or.inl ⟨rfl, hf, ?_⟩)
      unfold NdP.ins
      rw [if_neg (by rw [hc]; simp; omega), if_neg (by rw [ht]; simp), if_pos hf]
    · have hi : NdP.ins P y = ({ P with es := P.es.take (place P.es y.k) ++ y :: P.es.drop (place P.es y.k) }, 0) := by
        unfold NdP.ins
        rw [if_neg (by rw [hc]; simp; omega), if_neg (by rw [ht]; simp), if_neg hf]
      have hr := ins_rem h.sorted hi
      refine Or.inr (Or.inr ⟨rfl, _, hi, ⟨h.form, hr.1, fun e he => ?_, by rw [hr.2.2.1]; omega⟩, hr.2.2.2, there_ins h.sorted ht⟩)
      rcases mem_ins.1 he with rfl | he
      · exact ⟨hk, hv⟩
      · exact h.each e he
  · refine Or.inl ⟨rfl, ?_⟩
    unfold NdP.ins
    rw [if_neg (by rw [hc]; simp; omega), if_pos ht]
theorem HdP.rem {P : Pg} (h : HdP P) {k : ByteArray} (ht : there P.es k = true) : ∃ q, NdP.rem P k = (q, 0) ∧ HdP q ∧ q.es.length + 1 = P.es.length ∧ ∀ x, there q.es x = (!decide (x = k) && there P.es x) := by
  obtain ⟨e, he, hek⟩ := there_lt ht
  have hlt : place P.es k < P.es.length := by
    rcases Nat.lt_or_ge (place P.es k) P.es.length with h' | h'
    · exact h'
    · rw [List.getElem?_eq_none h'] at he; cases he
  have hsub := List.eraseIdx_sublist P.es (place P.es k)
  have hso : Sorted (P.es.eraseIdx (place P.es k)) := h.sorted.sublist hsub
  have hsz : sizes P.es = size e + sizes (P.es.eraseIdx (place P.es k)) := by
    rw [List.eraseIdx_eq_take_drop_succ, sizes_append, ← sizes_take_drop P.es (place P.es k), sizes_drop_succ he]
    omega
  refine ⟨{ P with es := P.es.eraseIdx (place P.es k) }, ?_, ⟨h.form, hso, fun x hx => h.each x (hsub.subset hx), ?_⟩, ?_, fun x => ?_⟩
  · unfold NdP.rem
    rw [if_neg (by rw [ht]; simp)]
  · have := h.room
    unfold free at this ⊢
    show 0 ≤ 489 - (P.high.size : Int) - (sizes (P.es.eraseIdx (place P.es k)) : Int)
    omega
  · show (P.es.eraseIdx (place P.es k)).length + 1 = P.es.length
    rw [List.length_eraseIdx, if_pos hlt]
    omega
  · show there (P.es.eraseIdx (place P.es k)) x = _
    have h1 := there_mem hso x
    have h2 := there_mem h.sorted x
    have h3 : x ∈ keys (P.es.eraseIdx (place P.es k)) ↔ x ≠ k ∧ x ∈ keys P.es := by
      have hp : P.es = P.es.take (place P.es k) ++ e :: P.es.drop (place P.es k + 1) := by rw [← drop_at he, List.take_append_drop]
      have hS : Sorted (P.es.take (place P.es k) ++ e :: P.es.drop (place P.es k + 1)) := by rw [← hp]; exact h.sorted
      have hA := (List.pairwise_append.1 hS).2.2
      have hB := (List.pairwise_cons.1 (List.pairwise_append.1 hS).2.1).1
      have hkk : keys P.es = keys (P.es.take (place P.es k)) ++ k :: keys (P.es.drop (place P.es k + 1)) := by
        conv => lhs; rw [hp]
        unfold keys
        rw [List.map_append, List.map_cons, hek]
      have hke : keys (P.es.eraseIdx (place P.es k)) = keys (P.es.take (place P.es k)) ++ keys (P.es.drop (place P.es k + 1)) := by
        rw [List.eraseIdx_eq_take_drop_succ]
        unfold keys
        rw [List.map_append]
      have hno : k ∉ keys (P.es.take (place P.es k)) ++ keys (P.es.drop (place P.es k + 1)) := by
        intro hm
        rcases List.mem_append.1 hm with hm | hm
        · obtain ⟨a, ha, hak⟩ := List.mem_map.1 hm
          have := hA a ha e (by simp)
          rw [hak, hek, lss_irrefl] at this
          cases this
        · obtain ⟨a, ha, hak⟩ := List.mem_map.1 hm
          have := hB a ha
          rw [hak, hek, lss_irrefl] at this
          cases this
      rw [hke, hkk]
      constructor
      · intro hm
        refine ⟨fun e => hno (e ▸ hm), ?_⟩
        rcases List.mem_append.1 hm with hm | hm
        · exact List.mem_append.2 (Or.inl hm)
        · exact List.mem_append.2 (Or.inr (List.mem_cons_of_mem _ hm))
      · rintro ⟨hne, hm⟩
        rcases List.mem_append.1 hm with hm | hm
        · exact List.mem_append.2 (Or.inl hm)
        · rcases List.mem_cons.1 hm with hm | hm
          · exact absurd hm hne
          · exact List.mem_append.2 (Or.inr hm)
    cases ha : there (P.es.eraseIdx (place P.es k)) x <;> cases hb : there P.es x <;> simp_all
end Go.Proofs.Ytldmhfpgcflplaa

/-
  Where a node is cut in two, plainly.
-/
import Derived.Test.YtldmhfpgcflplaaNdRight
set_option linter.unusedVariables false
set_option linter.unusedSimpArgs false
namespace Go.Proofs.Ytldmhfpgcflplaa
open Go Go.RowKit Go.Proofs.Ytldmhfpgcflplaa.PA Go.Proofs.YtldmhfpgcflplaaW.PrintWords NdP

def cutOn (l : List Ent) (j : Nat) : Prop := j = 0 ∨ sizes (l.take j) < sizes (l.drop j)
/-- The least place from one on that is the last or has no less ahead of it than behind it. -/
def IsCut (l : List Ent) (i : Nat) : Prop := i ≤ l.length - 1 ∧ (∀ j, j < i → cutOn l j) ∧ ¬ (i < l.length - 1 ∧ cutOn l i)
theorem isCut_unique {l : List Ent} {i j : Nat} (h : IsCut l i) (k : IsCut l j) : i = j := by
  rcases Nat.lt_trichotomy i j with hlt | he | hlt
  · exact absurd ⟨Nat.lt_of_lt_of_le hlt k.1, k.2.1 i hlt⟩ h.2.2
  · exact he
  · exact absurd ⟨Nat.lt_of_lt_of_le hlt h.1, h.2.1 j hlt⟩ k.2.2
theorem isCut_pos {l : List Ent} {i : Nat} (hl : 2 ≤ l.length) (h : IsCut l i) : 0 < i := by
  rcases Nat.eq_zero_or_pos i with he | he
  · subst he
    exact absurd ⟨by omega, Or.inl rfl⟩ h.2.2
  · exact he
theorem isCut_lt {l : List Ent} {i : Nat} (hl : 2 ≤ l.length) (h : IsCut l i) : i < l.length := by have := h.1; omega
theorem sizes_take_drop (l : List Ent) (i : Nat) : sizes (l.take i) + sizes (l.drop i) = sizes l := by rw [← sizes_append, List.take_append_drop]
theorem sizes_take_succ {l : List Ent} {i : Nat} {e : Ent} (h : l[i]? = some e) : sizes (l.take (i + 1)) = sizes (l.take i) + size e := by
  rw [take_one h, sizes_append]
  simp [sizes]
theorem sizes_drop_succ {l : List Ent} {i : Nat} {e : Ent} (h : l[i]? = some e) : sizes (l.drop i) = size e + sizes (l.drop (i + 1)) := by
  rw [drop_at h, sizes_cons]
/-- What is answered: two pages and an error's number. -/
def cutA (p : Pg) (i : Nat) (right : Int) (key : ByteArray) : Pg := { p with es := p.es.take i, high := key, right := right }
def cutB (p : Pg) (i : Nat) : Pg := { p with es := p.es.drop i }
def SpPost (w : World) (p : Pg) (right : Int) (x : Ending) (w' : World) : Prop :=
  ∃ (a b : Pg) (va vb : Value) (n : Int), x = .returned (.tuple #[pgV a va, pgV b vb, .int .i64 n]) ∧ RdN w' va a.es ∧ RdN w' vb b.es ∧ Below w.heap.size w w' ∧
    (((right < 1 ∨ 65535 < right) ∧ a = zero ∧ b = zero ∧ n = 1) ∨
     (1 ≤ right ∧ right ≤ 65535 ∧ p.es.length < 2 ∧ a = zero ∧ b = zero ∧ n = 17) ∨
     (1 ≤ right ∧ right ≤ 65535 ∧ 2 ≤ p.es.length ∧ n = 0 ∧ ∃ i e, IsCut p.es i ∧ p.es[i]? = some e ∧ a = cutA p i right e.k ∧ b = cutB p i))
/-- Both halves of a right node are right. -/
theorem rightL_sub {p q : Pg} {l : List Ent} (h : RightL p l) (hl : q.level = p.level) (hc : ∀ e ∈ l, covers q e.k = true) : RightL q l :=
  ⟨h.1, hc, fun h0 => h.2.2 (by rw [← hl]; exact h0)⟩
theorem cut_right {p : Pg} {i : Nat} {right : Int} {e : Ent} (hl : 2 ≤ p.es.length) (h : IsCut p.es i) (he : p.es[i]? = some e) (hr : RightP p) : RightP (cutA p i right e.k) ∧ RightP (cutB p i) := by
  have h0 := isCut_pos hl h
  have h1 := isCut_lt hl h
  constructor
  · refine ⟨hr.1, fun _ => ?_, ?_⟩
    · intro hn
      have : (p.es.take i).length = 0 := by
        have h2 : (cutA p i right e.k).es = p.es.take i := rfl
        rw [← h2, hn]; rfl
      rw [List.length_take] at this
      omega
    · refine rightL_sub (p := p) (rightL_take hr.2.2 i) rfl ?_
      intro x hx
      have hs : Sorted (p.es.take i ++ p.es.drop i) := by rw [List.take_append_drop]; exact hr.2.2.1
      have := (List.pairwise_append.1 hs).2.2 x hx e (by rw [drop_at he]; simp)
      unfold covers cutA
      simp [this]
  · refine ⟨hr.1, fun _ => ?_, ?_⟩
    · intro hn
      have : (p.es.drop i).length = 0 := by
        have h2 : (cutB p i).es = p.es.drop i := rfl
        rw [← h2, hn]; rfl
      rw [List.length_drop] at this
      omega
    · exact ⟨hr.2.2.1.sublist (List.drop_sublist _ _), fun x hx => hr.2.2.2.1 x (List.mem_of_mem_drop hx), fun h0 x hx => hr.2.2.2.2 h0 x (List.mem_of_mem_drop hx)⟩
end Go.Proofs.Ytldmhfpgcflplaa

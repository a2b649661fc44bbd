/-
  A list of whole numbers among the arguments, opened.
-/
import Derived.Test.YteccbihjkolpcaaLkOpen
import Derived.Test.YteccbihjkolpcaaLkW
set_option linter.unusedVariables false
set_option linter.unusedSimpArgs false
namespace Go.Proofs.Yteccbihjkolpcaa
open Go.RowKit Go.Maps LockP Go.Joins
theorem openI {H : Type} {enc : TypeId × Value → H} {w : World} {base : Nat} {sp : Nat → Bool} {held : Bool} {fuel : Nat} {cs : List Value} {x : DataW H × List MemPlace} (h : DataW.trod enc Try.prog w base sp held fuel 22 cs = some x) :
    ∃ (A : Option Addr) (l : List Int) (c : Nat), cs = [.slice A l.length c] ∧ l.length ≤ 9223372036854775807 ∧ ReadsI w A l ∧ ∀ y ∈ l, wf y := by
  rcases Go.ChangeShapes.open_ints Try.underlying22 Try.underlying3 cells3 h with ⟨rfl, _⟩ | ⟨a, len, cap, zs, rfl, _, hl, hm, hz, _, hc, hw⟩
  · exact ⟨none, [], 0, rfl, Nat.zero_le _, fun k x h => by simp at h, fun y hy => by simp at hy⟩
  · have hlz : len ≤ zs.length := by rw [hz]; split <;> omega
    have hL : (zs.take len).length = len := by rw [List.length_take]; omega
    have hmx : maxLen ≤ 9223372036854775807 := by decide
    refine ⟨some a, zs.take len, cap, by rw [hL], by rw [hL]; omega, fun k x hk => ?_, fun y hy => hw y (List.take_subset _ _ hy)⟩
    have hk1 : k < len := by
      have := (List.getElem?_eq_some_iff.1 hk).1
      omega
    rw [List.getElem?_take_of_lt hk1] at hk
    refine ⟨a, rfl, ?_⟩
    rw [hc k (by omega), List.getD_eq_getElem?_getD, hk]
    rfl
end Go.Proofs.Yteccbihjkolpcaa

/-
  A greater text is one that the other one is less than: the model's own test, told by 'less'.
-/
import Derived.Laws.Strings
namespace Go.Proofs.YtfaabbimbjegmaaDoor.GT
open Go
theorem less_tri : ∀ a b : List UInt8, (!(Op.bytesLess a b || a == b)) = Op.bytesLess b a
  | [], [] => rfl
  | [], _ :: _ => rfl
  | _ :: _, [] => rfl
  | x :: a, y :: b => by
    have ih := less_tri a b
    simp only [Op.bytesLess]
    by_cases h : x = y
    · subst h
      have hn : ¬ x < x := by simp
      simp only [hn, decide_false, beq_self_eq_true, Bool.true_and, Bool.false_or, List.cons_beq_cons]
      exact ih
    · have hx : (x == y) = false := by simpa using h
      have hy : (y == x) = false := by simpa using Ne.symm h
      simp only [hx, hy, Bool.false_and, Bool.or_false, List.cons_beq_cons]
      have : ¬ x < y ↔ y < x := by
        rw [UInt8.lt_iff_toNat_lt, UInt8.lt_iff_toNat_lt]
        have : x.toNat ≠ y.toNat := fun e => h (UInt8.toNat_inj.mp e)
        omega
      by_cases hl : x < y
      · have := mt this.2 (by simpa using hl); simp [hl, this]
      · have := this.1 hl; simp [hl, this]
end Go.Proofs.YtfaabbimbjegmaaDoor.GT
namespace Go
@[go_sem] theorem binOp_string_gtr_less (t : TypeId) (a b : ByteArray) : binOp .gtr t (.string a) (.string b) = pure (.bool (Op.bytesLess b.toList a.toList)) := by
  rw [← Go.Proofs.YtfaabbimbjegmaaDoor.GT.less_tri]
  simp [binOp, Op.stringOp]
end Go

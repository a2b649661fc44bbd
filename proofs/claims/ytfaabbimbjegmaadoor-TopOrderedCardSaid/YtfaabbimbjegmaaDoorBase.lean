/-
  Small plain lemmas that the walks of this seat lean on.
-/
namespace MyBase
theorem max0 {a : Int} (h : 0 ≤ a) : max a 0 = a := Int.max_eq_left h
theorem ne_nil (l : List UInt8) : (l != []) = !l.isEmpty := by cases l <;> rfl
theorem eq_nil (l : List UInt8) : (l == ([] : List UInt8)) = l.isEmpty := by cases l <;> rfl
end MyBase

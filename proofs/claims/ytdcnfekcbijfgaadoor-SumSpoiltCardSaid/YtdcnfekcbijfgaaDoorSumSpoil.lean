/-
  The plain law of spoilt seals: what was sealed, and of which up to four bytes in a row were turned, is a sealed text just where nothing was turned.
-/
import Derived.Test.YtdcnfekcbijfgaaDoorSumBase
set_option linter.unusedVariables false
namespace Go.Proofs.YtdcnfekcbijfgaaDoor.SB
open CrcPlain

/-- Bytes as a number, the least first. -/
def le : List UInt8 → Nat
  | [] => 0
  | b :: l => b.toNat ^^^ (le l * 256)

theorem reg_le (l : List UInt8) : ∀ r : Nat, reg r l = zn (8 * l.length) (r ^^^ le l) := by
  induction l with
  | nil => intro r; simp only [reg_nil, le, Nat.xor_zero, List.length_nil, Nat.mul_zero]; rfl
  | cons b l ih =>
    intro r
    rw [reg_cons, ih]
    unfold CrcPlain.step
    have h := zn_shift 8 (le l)
    rw [show (2 : Nat) ^ 8 = 256 from rfl] at h
    rw [show zn 8 (r ^^^ b.toNat) ^^^ le l = zn 8 ((r ^^^ b.toNat) ^^^ (le l * 256)) by rw [zn_xor 8 (r ^^^ b.toNat) (le l * 256), h], ← zn_add, List.length_cons, show 8 + 8 * l.length = 8 * (l.length + 1) by omega, Nat.xor_assoc]
    rfl

theorem le_lt (l : List UInt8) (h : l.length ≤ 4) : le l < 2 ^ (8 * l.length) := by
  induction l with
  | nil => simp [le]
  | cons b l ih =>
    have := ih (by simp at h; omega)
    have hb := b.toNat_lt
    simp only [le, List.length_cons]
    refine Nat.xor_lt_two_pow (Nat.lt_of_lt_of_le hb (Nat.pow_le_pow_right (by decide) (by omega))) ?_
    rw [show 8 * (l.length + 1) = 8 * l.length + 8 by omega, Nat.pow_add]
    exact Nat.mul_lt_mul_of_pos_right this (by decide)

theorem le_zero (l : List UInt8) (h : le l = 0) : ∀ x ∈ l, x = 0 := by
  induction l with
  | nil => intro x hx; cases hx
  | cons b l ih =>
    simp only [le] at h
    have hb := b.toNat_lt
    have e : b.toNat = le l * 256 := by
      have := congrArg (· ^^^ (le l * 256)) h
      simp only [Nat.xor_assoc, Nat.xor_self, Nat.xor_zero, Nat.zero_xor] at this
      exact this
    have h0 : le l = 0 := by omega
    have hb0 : b = 0 := by
      apply UInt8.toNat_inj.mp
      rw [e, h0]; rfl
    intro x hx
    rcases List.mem_cons.mp hx with rfl | hx
    · exact hb0
    · exact ih h0 x hx

theorem le_noughts (n : Nat) : le (List.replicate n 0) = 0 := by
  induction n with
  | zero => rfl
  | succ n ih => rw [List.replicate_succ]; simp only [le, ih]; rfl

theorem reg_noughts (n r : Nat) : reg r (List.replicate n 0) = zn (8 * n) r := by
  rw [reg_le, le_noughts, Nat.xor_zero, List.length_replicate]

theorem reg_zip (a : List UInt8) : ∀ (b : List UInt8) (r q : Nat), a.length = b.length → reg (r ^^^ q) (List.zipWith (· ^^^ ·) a b) = reg r a ^^^ reg q b := by
  induction a with
  | nil => intro b r q h; have : b = [] := List.eq_nil_of_length_eq_zero h.symm; subst this; rfl
  | cons x a ih =>
    intro b r q h
    match b, h with
    | y :: b, h =>
      simp only [List.zipWith_cons_cons, reg_cons]
      rw [UInt8.toNat_xor, step_xor]
      exact ih b _ _ (by simpa using h)

/-- What is left in the register behind a sealed text. -/
def rest : Nat := zn 32 4294967295

theorem le_le4 (c : Nat) (h : c < 4294967296) : le (le4 c) = c := by
  have t : ∀ x : Nat, (UInt8.ofNat (x % 256)).toNat = x % 256 := by intro x; rw [UInt8.toNat_ofNat']; omega
  simp only [le4, le, t, Nat.zero_mul, Nat.xor_zero]
  have two : ∀ a b : Nat, a < 256 → a ^^^ (b * 256) = a + b * 256 := by
    intro a b ha
    apply Nat.eq_of_testBit_eq
    intro i
    rw [Nat.add_comm, show b * 256 = 2 ^ 8 * b by rw [Nat.mul_comm], Nat.testBit_two_pow_mul_add _ ha, Nat.testBit_xor, Nat.testBit_two_pow_mul]
    by_cases hi : i < 8
    · simp [hi, show ¬ 8 ≤ i by omega]
    · have : a.testBit i = false := Nat.testBit_lt_two_pow (Nat.lt_of_lt_of_le ha (Nat.pow_le_pow_right (n := 2) (i := 8) (by decide) (by omega)))
      simp [hi, this]; omega
  rw [two _ _ (Nat.mod_lt _ (by decide)), two _ _ (Nat.mod_lt _ (by decide)), two _ _ (Nat.mod_lt _ (by decide))]
  omega

theorem le_inj {a b : List UInt8} (hl : a.length = b.length) (h : le a = le b) : a = b := by
  induction a generalizing b with
  | nil => exact (List.eq_nil_of_length_eq_zero hl.symm).symm
  | cons x a ih =>
    match b, hl with
    | y :: b, hl =>
      simp only [le] at h
      have hx := x.toNat_lt
      have hy := y.toNat_lt
      have e1 := congrArg (· % 256) h
      rw [show (256 : Nat) = 2 ^ 8 from rfl, Nat.xor_mod_two_pow, Nat.xor_mod_two_pow, Nat.mul_mod_left, Nat.mul_mod_left, Nat.xor_zero, Nat.xor_zero, Nat.mod_eq_of_lt hx, Nat.mod_eq_of_lt hy] at e1
      have exy : x = y := UInt8.toNat_inj.mp e1
      subst exy
      have e2 := congrArg (x.toNat ^^^ ·) h
      simp only [← Nat.xor_assoc, Nat.xor_self, Nat.zero_xor] at e2
      rw [ih (by simpa using hl) (by omega)]

/-- A text of four bytes or more is sealed just where that is left. -/
theorem sealed_iff (l : List UInt8) (h : 4 ≤ l.length) : Sealed l ↔ reg 4294967295 l = rest := by
  have hB : reg 4294967295 (l.take (l.length - 4)) < 4294967296 := reg_lt _ _ (by decide)
  have hl : l.take (l.length - 4) ++ l.drop (l.length - 4) = l := List.take_append_drop _ _
  have hM : (l.drop (l.length - 4)).length = 4 := by rw [List.length_drop]; omega
  have e : reg 4294967295 l = zn 32 (reg 4294967295 (l.take (l.length - 4)) ^^^ le (l.drop (l.length - 4))) := by
    conv => lhs; rw [← hl, reg_append, reg_le, hM]
  have hm : markL (l.take (l.length - 4)) = le4 (4294967295 - reg 4294967295 (l.take (l.length - 4))) := rfl
  unfold Sealed
  rw [e, hm]
  have hle : le (l.drop (l.length - 4)) < 4294967296 := by have := le_lt (l.drop (l.length - 4)) (by omega); rw [hM] at this; exact this
  generalize reg 4294967295 (l.take (l.length - 4)) = r at *
  generalize l.drop (l.length - 4) = M at *
  have hflip := Go.Proofs.YtdcnfekcbijfgaaDoor.PA.sum_Sum.flip r hB
  constructor
  · intro h1
    rw [h1, le_le4 _ (by omega), ← hflip, Nat.xor_comm 4294967295 r, ← Nat.xor_assoc, Nat.xor_self, Nat.zero_xor]
    rfl
  · intro h1
    have h2 : zn 32 ((r ^^^ le M) ^^^ 4294967295) = 0 := by
      rw [zn_xor, h1]; unfold rest; rw [Nat.xor_self]
    have h3 := zn_ne 32 _ (Nat.xor_lt_two_pow (n := 32) (Nat.xor_lt_two_pow (n := 32) hB hle) (by decide)) h2
    have h4 : le M = 4294967295 - r := by
      rw [← hflip]
      have := congrArg (4294967295 ^^^ r ^^^ ·) h3
      simp only [Nat.xor_zero] at this
      rw [← this]
      rw [show 4294967295 ^^^ r ^^^ (r ^^^ le M ^^^ 4294967295) = (4294967295 ^^^ 4294967295) ^^^ ((r ^^^ r) ^^^ le M) by
        rw [Nat.xor_self, Nat.xor_self, Nat.zero_xor, Nat.zero_xor, Nat.xor_assoc, Nat.xor_assoc, ← Nat.xor_assoc r r, Nat.xor_self, Nat.zero_xor, Nat.xor_comm (le M), ← Nat.xor_assoc, Nat.xor_self, Nat.zero_xor], Nat.xor_self, Nat.xor_self, Nat.zero_xor, Nat.zero_xor]
    exact le_inj hM (by rw [h4, le_le4 _ (by omega)])

theorem zip_noughts (a : List UInt8) : List.zipWith (· ^^^ ·) a (List.replicate a.length 0) = a := by
  induction a with
  | nil => rfl
  | cons x a ih => rw [List.length_cons, List.replicate_succ, List.zipWith_cons_cons, ih]; simp

theorem spoilt (l : List UInt8) (p q : Nat) (xs : List UInt8) (h : p + xs.length + q = l.length + 4) (hx : xs.length ≤ 4) :
    Sealed (List.zipWith (· ^^^ ·) (l ++ markL l) (List.replicate p 0 ++ xs ++ List.replicate q 0)) ↔ ∀ x ∈ xs, x = 0 := by
  have hlT : (l ++ markL l).length = l.length + 4 := by rw [List.length_append, markL_length]
  have hlE : (List.replicate p (0 : UInt8) ++ xs ++ List.replicate q 0).length = l.length + 4 := by simp only [List.length_append, List.length_replicate]; omega
  have hz : (List.zipWith (· ^^^ ·) (l ++ markL l) (List.replicate p 0 ++ xs ++ List.replicate q 0)).length = l.length + 4 := by rw [List.length_zipWith, hlT, hlE, Nat.min_self]
  constructor
  · intro hs
    rw [sealed_iff _ (by omega)] at hs
    have h1 := (sealed_iff (l ++ markL l) (by omega)).mp (sealed_seal l)
    have h2 := reg_zip (l ++ markL l) (List.replicate p 0 ++ xs ++ List.replicate q 0) 4294967295 0 (by rw [hlT, hlE])
    rw [Nat.xor_zero, hs, h1] at h2
    have h3 : reg 0 (List.replicate p 0 ++ xs ++ List.replicate q 0) = 0 := by
      have := congrArg (rest ^^^ ·) h2
      simp only [← Nat.xor_assoc, Nat.xor_self, Nat.zero_xor] at this
      exact this.symm
    rw [reg_append, reg_append, reg_noughts p 0, zn_zero, reg_noughts q, reg_le, Nat.zero_xor, ← zn_add] at h3
    have hlt := le_lt xs hx
    have hlt2 : le xs < 4294967296 := Nat.lt_of_lt_of_le hlt (Nat.pow_le_pow_right (n := 2) (i := 8 * xs.length) (by decide) (show 8 * xs.length ≤ 32 by omega))
    exact le_zero xs (zn_ne _ _ hlt2 h3)
  · intro h0
    have : List.replicate p (0 : UInt8) ++ xs ++ List.replicate q 0 = List.replicate (l ++ markL l).length 0 := by
      rw [hlT, ← hlE]
      refine List.eq_replicate_iff.mpr ⟨rfl, fun b hb => ?_⟩
      simp only [List.mem_append, List.mem_replicate] at hb
      rcases hb with (⟨_, rfl⟩ | hb) | ⟨_, rfl⟩
      · rfl
      · exact h0 b hb
      · rfl
    rw [this, zip_noughts]
    exact sealed_seal l

end Go.Proofs.YtdcnfekcbijfgaaDoor.SB

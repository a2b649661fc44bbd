/- Numbers of one size are ordered as their bytes are: the pure statement. -/
import Derived.Test.YtdcnfekcbijfgaaDoorSumNum
namespace Go.Proofs.YtdcnfekcbijfgaaDoor.Pure
open Go.RowKit Go.Proofs.YtdcnfekcbijfgaaDoor.PA Go.Proofs.YtdcnfekcbijfgaaDoor.SB Go.Proofs.YtdcnfekcbijfgaaDoorW.PrintWords Go.Proofs.YtdcnfekcbijfgaaDoorW.PrintLast Go.Proofs.YtdcnfekcbijfgaaDoorW.PrintMore

theorem be_cons (n s : Nat) : be n (s + 1) = UInt8.ofNat (n / 256 ^ s % 256) :: be n s := by
  rw [← bi_be, ← bi_be]
  unfold Lib.bytesOf
  rw [bi, List.map_cons, Int.toNat_natCast]

theorem split_mod (a s : Nat) : a % 256 ^ (s + 1) = (a / 256 ^ s % 256) * 256 ^ s + a % 256 ^ s := by
  rw [Nat.pow_succ, Nat.mod_mul, Nat.mul_comm, Nat.add_comm]

/-- Bytes of one length are ordered as their numbers are. -/
theorem be_less (s : Nat) : ∀ a b : Nat, Op.bytesLess (be a s) (be b s) = decide (a % 256 ^ s < b % 256 ^ s) := by
  induction s with
  | zero => intro a b; rw [Nat.pow_zero, Nat.mod_one, Nat.mod_one]; rfl
  | succ s ih =>
    intro a b
    rw [be_cons, be_cons, split_mod, split_mod b]
    have ha : a / 256 ^ s % 256 < 256 := Nat.mod_lt _ (by decide)
    have hb : b / 256 ^ s % 256 < 256 := Nat.mod_lt _ (by decide)
    have hp : 0 < 256 ^ s := Nat.pow_pos (by decide)
    have la : a % 256 ^ s < 256 ^ s := Nat.mod_lt _ hp
    have lb : b % 256 ^ s < 256 ^ s := Nat.mod_lt _ hp
    have e := ih a b
    generalize a / 256 ^ s % 256 = x at *
    generalize b / 256 ^ s % 256 = y at *
    generalize a % 256 ^ s = p at *
    generalize b % 256 ^ s = q at *
    generalize 256 ^ s = N at *
    have hx : (UInt8.ofNat x).toNat = x := by rw [UInt8.toNat_ofNat']; omega
    have hy : (UInt8.ofNat y).toNat = y := by rw [UInt8.toNat_ofNat']; omega
    simp only [Op.bytesLess, UInt8.lt_iff_toNat_lt, hx, hy, e]
    rcases Nat.lt_trichotomy x y with h | h | h
    · have : (x + 1) * N ≤ y * N := Nat.mul_le_mul_right N h
      have h2 : x * N + N ≤ y * N := by rw [Nat.add_mul, Nat.one_mul] at this; exact this
      simp [h, show x * N + p < y * N + q by omega]
    · subst h
      simp
    · have : (y + 1) * N ≤ x * N := Nat.mul_le_mul_right N h
      have h2 : y * N + N ≤ x * N := by rw [Nat.add_mul, Nat.one_mul] at this; exact this
      have hne : ¬ UInt8.ofNat x = UInt8.ofNat y := fun e2 => by
        have := congrArg UInt8.toNat e2
        rw [hx, hy] at this
        omega
      simp [hne, show ¬ x < y by omega, show ¬ x * N + p < y * N + q by omega]

theorem mask_bounds (x m : Int) (h0 : 0 ≤ m) (h1 : m < 9223372036854775808) : 0 ≤ Go.bits .and .i64 x m ∧ Go.bits .and .i64 x m ≤ m := by
  unfold Go.bits
  simp only
  have hm : (BitVec.ofInt 64 m).toNat = m.toNat := by
    rw [BitVec.toNat_ofInt]
    omega
  have hle : (BitVec.ofInt 64 x &&& BitVec.ofInt 64 m).toNat ≤ m.toNat := by
    rw [BitVec.toNat_and, hm]
    exact Nat.and_le_right
  show 0 ≤ IntKind.i64.wrap ((BitVec.ofInt 64 x &&& BitVec.ofInt 64 m).toNat : Nat) ∧ IntKind.i64.wrap ((BitVec.ofInt 64 x &&& BitVec.ofInt 64 m).toNat : Nat) ≤ m
  generalize (BitVec.ofInt 64 x &&& BitVec.ofInt 64 m).toNat = r at *
  rw [IntKind.wrap_i64]
  omega

theorem shl_one (s : Nat) (h : s ≤ 7) : shl .i64 1 (8 * (s : Int)) = ((256 ^ s : Nat) : Int) := by
  match s, h with
  | 0, _ | 1, _ | 2, _ | 3, _ | 4, _ | 5, _ | 6, _ | 7, _ => decide +kernel

theorem SumOrder : concordancelaw02_SumOrder.Pure := by
  intro a b z _ _ hz
  have hzb := wf_bounds hz
  obtain ⟨s, hs1, hs7, hs⟩ : ∃ s : Nat, 1 ≤ s ∧ s ≤ 7 ∧ wrap64 (1 + (Int.tmod (wrap64 ((Int.tmod z 7) + 7)) 7)) = (s : Int) := by
    have h1 : -7 < Int.tmod z 7 := by
      have := Int.lt_tmod_of_pos z (show (0 : Int) < 7 by decide)
      omega
    have h2 : Int.tmod z 7 < 7 := Int.tmod_lt_of_pos z (by decide)
    generalize Int.tmod z 7 = y at *
    have hw : wrap64 (y + 7) = y + 7 := by unfold wrap64; omega
    rw [hw]
    have h3 : 0 ≤ Int.tmod (y + 7) 7 ∧ Int.tmod (y + 7) 7 < 7 := by
      rw [Int.tmod_eq_emod_of_nonneg (by omega)]
      omega
    generalize Int.tmod (y + 7) 7 = x at *
    refine ⟨(1 + x).toNat, by omega, by omega, ?_⟩
    unfold wrap64
    omega
  have hp : 0 < 256 ^ s := Nat.pow_pos (by decide)
  have hp7 : 256 ^ s ≤ 256 ^ 7 := Nat.pow_le_pow_right (by decide) hs7
  have hp7' : (256 : Nat) ^ 7 = 72057594037927936 := by decide
  have hw8 : wrap64 (8 * (s : Int)) = 8 * (s : Int) := by unfold wrap64; omega
  have hmask : wrap64 (((256 ^ s : Nat) : Int) - 1) = ((256 ^ s : Nat) : Int) - 1 := by
    rw [hp7'] at hp7
    generalize 256 ^ s = N at *
    unfold wrap64
    omega
  have ba := mask_bounds a (((256 ^ s : Nat) : Int) - 1) (by generalize 256 ^ s = N at *; omega) (by rw [hp7'] at hp7; generalize 256 ^ s = N at *; omega)
  have bb := mask_bounds b (((256 ^ s : Nat) : Int) - 1) (by generalize 256 ^ s = N at *; omega) (by rw [hp7'] at hp7; generalize 256 ^ s = N at *; omega)
  have hx9 : ((256 ^ s : Nat) : Int) ≤ 72057594037927936 := by rw [hp7'] at hp7; generalize 256 ^ s = N at *; omega
  unfold concordancelaw02_SumOrder.f
  rw [hs, hw8, shl_one s hs7, hmask]
  generalize Go.bits .and .i64 a (((256 ^ s : Nat) : Int) - 1) = x at *
  generalize Go.bits .and .i64 b (((256 ^ s : Nat) : Int) - 1) = y at *
  have hxn : x.toNat < 256 ^ s := by generalize 256 ^ s = N at *; omega
  have hyn : y.toNat < 256 ^ s := by generalize 256 ^ s = N at *; omega
  obtain ⟨K1, h1⟩ := speaks
  obtain ⟨t, ⟨K2, h2⟩, htl⟩ := put_f x (s : Int) (by omega)
  obtain ⟨u, ⟨K3, h3⟩, hul⟩ := put_f y (s : Int) (by omega)
  have pt : putL x (s : Int) = be x.toNat s := by
    unfold putL
    rw [if_pos ⟨by omega, by omega, ba.1, by rw [Int.toNat_natCast]; exact hxn⟩, Int.toNat_natCast]
  have pu : putL y (s : Int) = be y.toNat s := by
    unfold putL
    rw [if_pos ⟨by omega, by omega, bb.1, by rw [Int.toNat_natCast]; exact hyn⟩, Int.toNat_natCast]
  rw [pt] at htl
  rw [pu] at hul
  refine ⟨K1 + K2 + K3, ?_⟩
  have e1 := h1 (K1 + K2 + K3) (by omega)
  have e2 := h2 (K1 + K2 + K3) (by omega)
  have e3 := h3 (K1 + K2 + K3) (by omega)
  simp only at e1 e2 e3
  have st : t.size = s := by rw [← sizeL, htl, be_length]
  have su : u.size = s := by rw [← sizeL, hul, be_length]
  have hless : Op.bytesLess t.toList u.toList = decide (x < y) := by
    rw [Lib.toList_data, Lib.toList_data, htl, hul, be_less, Nat.mod_eq_of_lt hxn, Nat.mod_eq_of_lt hyn]
    have ha := ba.1
    have hb := bb.1
    by_cases h : x < y
    · rw [decide_eq_true h, decide_eq_true (by omega)]
    · rw [decide_eq_false h, decide_eq_false (by omega)]
  have heq : (t.toList == u.toList) = (x == y) := by
    rw [Bool.eq_iff_iff, beq_iff_eq, beq_iff_eq, Lib.toList_data, Lib.toList_data, htl, hul]
    constructor
    · intro h
      have := congrArg num h
      rw [num_be _ _ hxn, num_be _ _ hyn] at this
      have ha := ba.1
      have hb := bb.1
      omega
    · intro h
      rw [h]
  rw [e1]
  simp only [Option.bind_some, if_true]
  rw [if_pos (by omega), e2]
  simp only [Option.bind_some]
  rw [e3]
  simp only [Option.bind_some]
  rw [if_pos (by rw [st]), if_pos (by rw [su]), hless, heq]
  simp

end Go.Proofs.YtdcnfekcbijfgaaDoor.Pure

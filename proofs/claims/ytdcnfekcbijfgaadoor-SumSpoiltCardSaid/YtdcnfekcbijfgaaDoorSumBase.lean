/-
  What the printed functions of layer 2 compute, as plain functions on lists of bytes: the sum, sealed texts, numbers in bytes.
-/
import Derived.Test.YtdcnfekcbijfgaaDoorPAx2
import Derived.Lib.Bytes
import Derived.Lib.Strings
import Derived.KernelRfl
namespace Go.Proofs.YtdcnfekcbijfgaaDoor.SB
open Go.RowKit Go.Proofs.YtdcnfekcbijfgaaDoor.PA Go.Proofs.YtdcnfekcbijfgaaDoorW.PrintWords Go.Proofs.YtdcnfekcbijfgaaDoorW.PrintLast Go.Proofs.YtdcnfekcbijfgaaDoorW.PrintMore

theorem ext {a b : ByteArray} (h : a.data.toList = b.data.toList) : a = b := by
  apply ByteArray.ext
  exact Array.ext' h
theorem sizeL (s : ByteArray) : s.data.toList.length = s.size := by rw [Array.length_toList]; rfl
theorem dataAppend (a b : ByteArray) : (a ++ b).data.toList = a.data.toList ++ b.data.toList := by
  rw [ByteArray.data_append, Array.toList_append]
theorem strL (xs : List Int) : (strOfNums xs).data.toList = Lib.bytesOf xs := by rw [← Lib.toList_data, Lib.strOfNums_toList]
theorem wf_bounds {n : Int} (h : (Lit.int .i64 n).wf = true) : -9223372036854775808 ≤ n ∧ n ≤ 9223372036854775807 := by
  simp only [Lit.wf, IntKind.min, IntKind.max, IntKind.signed, IntKind.bits, Bool.and_eq_true, decide_eq_true_eq] at h
  simpa using h
theorem btL (s : ByteArray) (i : Nat) (h : i < s.size) : bt s (i : Int) = ((s[i]'h).toNat : Int) := (bt_at s i h).symm
theorem btD (s : ByteArray) (i : Nat) (h : i < s.size) : bt s (i : Int) = ((s.data.toList.getD i 0).toNat : Int) := by
  rw [btL s i h]
  have h2 : i < s.data.toList.length := by rw [sizeL]; exact h
  rw [List.getD_eq_getElem?_getD, List.getElem?_eq_getElem h2]
  rfl

/-! ### the sum -/
/-- A number's four bytes, the least first. -/
def le4 (n : Nat) : List UInt8 := [UInt8.ofNat (n % 256), UInt8.ofNat (n / 256 % 256), UInt8.ofNat (n / 65536 % 256), UInt8.ofNat (n / 16777216 % 256)]
def markL (l : List UInt8) : List UInt8 := le4 (CrcPlain.crc l)
theorem markL_length (l : List UInt8) : (markL l).length = 4 := rfl

theorem mark_f (a : ByteArray) (h : a.size ≤ 9223372036854775807) : ∃ m, sum_mark.f a = some m ∧ m.data.toList = markL a.data.toList ∧ m.size = 4 := by
  have e : ∀ c : Nat, Lib.bytesOf [(c : Int) % 256, (c : Int) / 256 % 256, (c : Int) / 65536 % 256, (c : Int) / 16777216 % 256] = le4 c := by
    intro c
    simp only [Lib.bytesOf, List.map_cons, List.map_nil, le4]
    rw [show ((c : Int) % 256).toNat = c % 256 by omega, show ((c : Int) / 256 % 256).toNat = c / 256 % 256 by omega, show ((c : Int) / 65536 % 256).toNat = c / 65536 % 256 by omega, show ((c : Int) / 16777216 % 256).toNat = c / 16777216 % 256 by omega]
  have h1 : (strOfNums [((CrcPlain.crc a.data.toList : Nat) : Int) % 256, ((CrcPlain.crc a.data.toList : Nat) : Int) / 256 % 256, ((CrcPlain.crc a.data.toList : Nat) : Int) / 65536 % 256, ((CrcPlain.crc a.data.toList : Nat) : Int) / 16777216 % 256]).data.toList = markL a.data.toList := by
    rw [strL, e]; rfl
  refine ⟨_, ?_, h1, ?_⟩
  · unfold sum_mark.f sum_Sum.f
    rw [if_pos h]; rfl
  · rw [← sizeL, h1]; rfl

theorem seal_f (a : ByteArray) (h : a.size ≤ 9223372036854775803) : ∃ t, sum_Seal.f a = some t ∧ t.data.toList = a.data.toList ++ markL a.data.toList ∧ t.size = a.size + 4 := by
  obtain ⟨m, hm, hl, hs⟩ := mark_f a (by omega)
  refine ⟨a ++ m, ?_, by rw [dataAppend, hl], by rw [ByteArray.size_append, hs]⟩
  unfold sum_Seal.f
  rw [hm]
  simp only [Option.bind_some]
  rw [if_pos (by omega)]

/-- A text is a sealed one. -/
def Sealed (l : List UInt8) : Prop := l.drop (l.length - 4) = markL (l.take (l.length - 4))
instance (l : List UInt8) : Decidable (Sealed l) := by unfold Sealed; infer_instance

theorem extract_front (a : ByteArray) (n : Nat) : (a.extract 0 n).data.toList = a.data.toList.take n := by
  rw [Lib.extract_data, List.drop_zero, Nat.sub_zero]
theorem extract_back (a : ByteArray) (n : Nat) : (a.extract n a.size).data.toList = a.data.toList.drop n := by
  rw [Lib.extract_data, List.take_of_length_le (by rw [List.length_drop, sizeL]; omega)]

theorem open_f (a : ByteArray) (h : a.size ≤ 9223372036854775807) :
    sum_Open.f a = some (if a.size < 4 then (⟨#[]⟩, 3) else if Sealed a.data.toList then (a.extract 0 (a.size - 4), 0) else (⟨#[]⟩, 5)) := by
  unfold sum_Open.f
  rw [if_pos h]
  by_cases h4 : a.size < 4
  · rw [if_pos h4, if_pos h4]
  · rw [if_neg h4, if_neg h4]
    have hsz : (a.extract 0 (a.size - 4)).size = a.size - 4 := by rw [ByteArray.size_extract]; omega
    obtain ⟨m, hm, hl, _⟩ := mark_f (a.extract 0 (a.size - 4)) (by omega)
    rw [hm]
    simp only [Option.bind_some]
    have e : ((a.extract (a.size - 4) a.size).toList = m.toList) ↔ Sealed a.data.toList := by
      rw [Lib.toList_data, Lib.toList_data, hl, extract_back, extract_front]
      unfold Sealed
      rw [sizeL]
    by_cases hS : Sealed a.data.toList
    · rw [if_pos (e.mpr hS), if_pos hS]
    · rw [if_neg (fun h => hS (e.mp h)), if_neg hS]

theorem sealed_seal (l : List UInt8) : Sealed (l ++ markL l) := by
  unfold Sealed
  have : (l ++ markL l).length - 4 = l.length := by rw [List.length_append, markL_length]; omega
  rw [this, List.drop_left, List.take_left]

/-- What was sealed is opened. -/
theorem open_seal (a t : ByteArray) (h : a.size ≤ 9223372036854775803) (ht : t.data.toList = a.data.toList ++ markL a.data.toList) : sum_Open.f t = some (a, 0) := by
  have hs : t.size = a.size + 4 := by rw [← sizeL, ht, List.length_append, markL_length, sizeL]
  rw [open_f t (by omega), if_neg (by omega), if_pos (by rw [ht]; exact sealed_seal _)]
  have : t.extract 0 (t.size - 4) = a := by
    apply ext
    rw [extract_front, ht, hs, show a.size + 4 - 4 = a.data.toList.length by rw [sizeL]; omega, List.take_left]
  rw [this]

/-! ### the reference's sum -/
theorem wrap_small {i : Nat} (h : i < 9223372036854775807) : wrap64 ((i : Int) + 1) = ((i + 1 : Nat) : Int) := by unfold wrap64; omega

theorem xor_poly (r : Nat) (h : r < 4294967296) : Go.bits .xor .u32 ((Int.tdiv (r : Int) 2) % 4294967296) 3988292384 = ((r / 2 ^^^ CrcPlain.poly : Nat) : Int) := by
  have e : (Int.tdiv (r : Int) 2) % 4294967296 = ((r / 2 : Nat) : Int) := by
    rw [Int.tdiv_eq_ediv_of_nonneg (by omega)]; omega
  rw [e]
  exact u32_xor_nat (r / 2) 3988292384 (by omega) (by decide)

theorem shr_nat (b j : Nat) (hb : b < 256) (hj : j < 8) : shr .u32 (((b : Int)) % 4294967296) (IntKind.u64.wrap (j : Int)) = ((b / 2 ^ j : Nat) : Int) := by
  have e : IntKind.u64.wrap (j : Int) = (j : Int) := by simp [IntKind.wrap, IntKind.bits, IntKind.signed]; omega
  have e2 : ((b : Int)) % 4294967296 = (b : Int) := by omega
  unfold shr
  rw [e, e2, Int.toNat_natCast, show IntKind.u32.bits = 32 from rfl, Nat.min_eq_left (by omega)]
  norm_cast

theorem half_nat (r : Nat) (h : r < 4294967296) : (Int.tdiv (r : Int) 2) % 4294967296 = ((r / 2 : Nat) : Int) := by
  rw [Int.tdiv_eq_ediv_of_nonneg (by omega)]; omega
theorem odd_nat (x : Nat) : (Int.tmod (x : Int) 2 = 1) ↔ x % 2 = 1 := by
  rw [Int.tmod_eq_emod_of_nonneg (by omega)]; omega
theorem u64_small (j : Nat) (h : j < 8) : IntKind.u64.wrap (j : Int) = (j : Int) := by simp [IntKind.wrap, IntKind.bits, IntKind.signed]; omega

/-- One bit's turn, as the reference has it. -/
theorem bit_turn (a : ByteArray) (i : Nat) (hi : i < a.size) (j r K : Nat) (hj : j < 8) (hr : r < 4294967296) :
    concordanceref02_Sum.l1 (K + 1) a (r : Int) (i : Int) (j : Int) = concordanceref02_Sum.l1 K a (((if (r ^^^ a[i].toNat / 2 ^ j) % 2 = 1 then r / 2 ^^^ CrcPlain.poly else r / 2 : Nat)) : Int) (i : Int) ((j + 1 : Nat) : Int) := by
  have hb := a[i].toNat_lt
  have c1 : (j : Int) < 8 := by omega
  have c2 : (0 : Int) ≤ (i : Int) := by omega
  have c3 : (i : Int) < (a.size : Int) := by omega
  have c4 : (0 : Int) ≤ (j : Int) := by omega
  have hw : wrap64 ((j : Int) + 1) = ((j + 1 : Nat) : Int) := wrap_small (by omega)
  have e1 := shr_nat a[i].toNat j hb hj
  have e2 := u64_small j hj
  have hx : a[i].toNat / 2 ^ j < 4294967296 := Nat.lt_of_le_of_lt (Nat.div_le_self _ _) (Nat.lt_of_lt_of_le hb (by decide))
  have e3 := u32_xor_nat r (a[i].toNat / 2 ^ j) hr hx
  simp only [concordanceref02_Sum.l1]
  rw [if_pos c1, if_pos c2, if_pos c3, btL a i hi, e1, e3, hw, xor_poly r hr, half_nat r hr, e2, if_pos c4]
  by_cases h1 : (r ^^^ a[i].toNat / 2 ^ j) % 2 = 1
  · rw [if_pos ((odd_nat _).mpr h1), if_pos h1]
  · rw [if_neg (fun h => h1 ((odd_nat _).mp h)), if_neg h1]

theorem round8 (a : ByteArray) (i : Nat) (hi : i < a.size) (hs : a.size ≤ 9223372036854775807) (k : Nat) (d : Nat) : ∀ (j r : Nat), j + d = 8 → r < 4294967296 →
    concordanceref02_Sum.l1 (k + d + 1) a (r : Int) (i : Int) (j : Int) = concordanceref02_Sum.l0 k a ((CrcPlain.zn d (r ^^^ (a[i].toNat / 2 ^ j)) : Nat) : Int) ((i + 1 : Nat) : Int) := by
  have hb := a[i].toNat_lt
  have hw : wrap64 ((i : Int) + 1) = ((i + 1 : Nat) : Int) := wrap_small (by omega)
  induction d with
  | zero =>
    intro j r hj hr
    obtain rfl : j = 8 := by omega
    simp only [concordanceref02_Sum.l1]
    rw [if_neg (by decide), hw]
    have : a[i].toNat / 2 ^ 8 = 0 := Nat.div_eq_of_lt hb
    rw [this, Nat.xor_zero]
    rfl
  | succ d ih =>
    intro j r hj hr
    have hj8 : j < 8 := by omega
    have hj1 : j + 1 + d = 8 := by omega
    have e4 : a[i].toNat / 2 ^ j / 2 = a[i].toNat / 2 ^ (j + 1) := by rw [Nat.div_div_eq_div_mul, Nat.pow_succ]
    have hq : r / 2 < 4294967296 := by omega
    rw [show k + (d + 1) + 1 = (k + d + 1) + 1 by omega, bit_turn a i hi j r _ hj8 hr]
    have hz : CrcPlain.zn (d + 1) (r ^^^ a[i].toNat / 2 ^ j) = CrcPlain.zn d (CrcPlain.zb (r ^^^ a[i].toNat / 2 ^ j)) := rfl
    rw [hz]
    unfold CrcPlain.zb
    rw [CrcPlain.xor_half, e4]
    by_cases h1 : (r ^^^ a[i].toNat / 2 ^ j) % 2 = 1
    · rw [if_pos h1, if_pos h1, ih (j + 1) (r / 2 ^^^ CrcPlain.poly) hj1 (Nat.xor_lt_two_pow (n := 32) hq (by decide))]
      rw [Nat.xor_assoc, Nat.xor_comm CrcPlain.poly, ← Nat.xor_assoc]
    · rw [if_neg h1, if_neg h1, ih (j + 1) (r / 2) hj1 hq]

theorem refSum_l0 (a : ByteArray) (hs : a.size ≤ 9223372036854775807) (d : Nat) : ∀ i, i + d = a.size →
    concordanceref02_Sum.l0 (10 * d + 1) a ((CrcPlain.reg 4294967295 (a.data.toList.take i) : Nat) : Int) (i : Int) = some ((CrcPlain.crc a.data.toList : Nat) : Int) := by
  induction d with
  | zero =>
    intro i hi
    simp only [concordanceref02_Sum.l0]
    rw [if_neg (by omega), List.take_of_length_le (by rw [sizeL]; omega)]
    have := CrcPlain.reg_lt a.data.toList 4294967295 (by decide)
    unfold CrcPlain.crc
    congr 1
    omega
  | succ d ih =>
    intro i hi
    have hlt : i < a.size := by omega
    have hR := CrcPlain.reg_lt (a.data.toList.take i) 4294967295 (by decide)
    rw [show 10 * (d + 1) + 1 = ((10 * d + 1) + 8 + 1) + 1 by omega]
    simp only [concordanceref02_Sum.l0]
    rw [if_pos (by omega)]
    have h8 := round8 a i hlt hs (10 * d + 1) 8 0 _ rfl hR
    rw [show ((0 : Nat) : Int) = 0 from rfl] at h8
    rw [h8, Nat.pow_zero, Nat.div_one]
    have e := ih (i + 1) (by omega)
    rw [sum_Sum.take_snoc a i hlt, CrcPlain.reg_snoc] at e
    exact e

theorem refSum (a : ByteArray) (hs : a.size ≤ 9223372036854775807) : Ev (fun k => concordanceref02_Sum.f k a) ((CrcPlain.crc a.data.toList : Nat) : Int) := by
  refine Ev.of (k := 10 * a.size + 1) (fun k => concordanceref02_Sum.mono a k) ?_
  have h := refSum_l0 a hs a.size 0 (by omega)
  rw [List.take_zero, CrcPlain.reg_nil] at h
  unfold concordanceref02_Sum.f
  exact h

/-! ### the reference's seal -/
theorem refSeal (a : ByteArray) (hs : a.size ≤ 9223372036854775803) : ∃ t, Ev (fun k => concordanceref02_Seal.f k a) t ∧ t.data.toList = a.data.toList ++ markL a.data.toList := by
  have hc := CrcPlain.crc_lt a.data.toList
  generalize hC : CrcPlain.crc a.data.toList = c at hc
  have one : ∀ (n : Nat) (z : ByteArray) (i : Nat) (k : Nat), n < 4294967296 → i < 4 → z.size + 1 ≤ 9223372036854775807 →
      concordanceref02_Seal.l0 (k + 1) z (n : Int) (i : Int) = concordanceref02_Seal.l0 k (z ++ strOfNums [((n : Int)) % 256]) ((n / 256 : Nat) : Int) ((i + 1 : Nat) : Int) := by
    intro n z i k hn hi hz
    simp only [concordanceref02_Seal.l0]
    have e : (Int.tdiv (n : Int) 256) % 4294967296 = ((n / 256 : Nat) : Int) := by
      rw [Int.tdiv_eq_ediv_of_nonneg (by omega)]; omega
    have e1 : (strOfNums [((n : Int)) % 256]).size = 1 := by rw [← sizeL, strL]; rfl
    rw [if_pos (by omega)]
    simp only [Option.bind_some]
    rw [e1, if_pos hz, e, wrap_small (by omega)]
  have sz : ∀ (z : ByteArray) (n : Nat), (z ++ strOfNums [((n : Int)) % 256]).size = z.size + 1 := by
    intro z n
    have e1 : (strOfNums [((n : Int)) % 256]).size = 1 := by rw [← sizeL, strL]; rfl
    rw [ByteArray.size_append, e1]
  have by1 : ∀ n : Nat, (strOfNums [((n : Int)) % 256]).data.toList = [UInt8.ofNat (n % 256)] := by
    intro n
    rw [strL]
    simp only [Lib.bytesOf, List.map_cons, List.map_nil]
    rw [show ((n : Int) % 256).toNat = n % 256 by omega]
  refine ⟨((((a ++ strOfNums [((c : Nat) : Int) % 256]) ++ strOfNums [((c / 256 : Nat) : Int) % 256]) ++ strOfNums [((c / 256 / 256 : Nat) : Int) % 256]) ++ strOfNums [((c / 256 / 256 / 256 : Nat) : Int) % 256]), ?_, ?_⟩
  · refine Ev.bind (refSum a (by omega)) ?_
    rw [hC]
    refine Ev.of (k := 5) (fun k => (concordanceref02_Seal.mono_l k) _ _ _) ?_
    have r0 := one c a 0 4 hc (by decide) (by omega)
    have r1 := one (c / 256) (a ++ strOfNums [((c : Nat) : Int) % 256]) 1 3 (by omega) (by decide) (by rw [sz]; omega)
    have r2 := one (c / 256 / 256) ((a ++ strOfNums [((c : Nat) : Int) % 256]) ++ strOfNums [((c / 256 : Nat) : Int) % 256]) 2 2 (by omega) (by decide) (by rw [sz, sz]; omega)
    have r3 := one (c / 256 / 256 / 256) (((a ++ strOfNums [((c : Nat) : Int) % 256]) ++ strOfNums [((c / 256 : Nat) : Int) % 256]) ++ strOfNums [((c / 256 / 256 : Nat) : Int) % 256]) 3 1 (by omega) (by decide) (by rw [sz, sz, sz]; omega)
    have r4 : concordanceref02_Seal.l0 1 ((((a ++ strOfNums [((c : Nat) : Int) % 256]) ++ strOfNums [((c / 256 : Nat) : Int) % 256]) ++ strOfNums [((c / 256 / 256 : Nat) : Int) % 256]) ++ strOfNums [((c / 256 / 256 / 256 : Nat) : Int) % 256]) ((c / 256 / 256 / 256 / 256 : Nat) : Int) ((3 + 1 : Nat) : Int) = some ((((a ++ strOfNums [((c : Nat) : Int) % 256]) ++ strOfNums [((c / 256 : Nat) : Int) % 256]) ++ strOfNums [((c / 256 / 256 : Nat) : Int) % 256]) ++ strOfNums [((c / 256 / 256 / 256 : Nat) : Int) % 256]) := by
      rw [concordanceref02_Seal.l0, if_neg (by decide)]
    exact r0.trans (r1.trans (r2.trans (r3.trans r4)))
  · rw [dataAppend, dataAppend, dataAppend, dataAppend, by1, by1, by1, by1]
    simp only [List.append_assoc, List.cons_append, List.nil_append]
    unfold markL le4
    rw [hC]
    rw [show c / 256 / 256 = c / 65536 by omega, show c / 65536 / 256 = c / 16777216 by omega]

theorem refOpen (a : ByteArray) (hs : a.size ≤ 9223372036854775807) : Ev (fun k => concordanceref02_Open.f k a) (if a.size < 4 then (⟨#[]⟩, 3) else if Sealed a.data.toList then (a.extract 0 (a.size - 4), 0) else (⟨#[]⟩, 5)) := by
  by_cases h4 : a.size < 4
  · rw [if_pos h4]
    refine ⟨0, fun k _ => ?_⟩
    simp only [concordanceref02_Open.f]
    rw [if_pos (by omega)]
  · rw [if_neg h4]
    have hw : wrap64 ((a.size : Int) - 4) = ((a.size - 4 : Nat) : Int) := by unfold wrap64; omega
    have hsz : (a.extract 0 (a.size - 4)).size = a.size - 4 := by rw [ByteArray.size_extract]; omega
    obtain ⟨t, ht, hl⟩ := refSeal (a.extract 0 (a.size - 4)) (by omega)
    have e : (t.toList = a.toList) ↔ Sealed a.data.toList := by
      rw [Lib.toList_data, Lib.toList_data, hl, extract_front]
      unfold Sealed
      rw [sizeL]
      constructor
      · intro h
        have h2 : (a.data.toList.take (a.size - 4) ++ markL (a.data.toList.take (a.size - 4))).drop (a.size - 4) = a.data.toList.drop (a.size - 4) := by rw [h]
        rw [← h2]
        have hlen : (a.data.toList.take (a.size - 4)).length = a.size - 4 := by rw [List.length_take, sizeL]; omega
        have h3 := List.drop_left (l₁ := a.data.toList.take (a.size - 4)) (l₂ := markL (a.data.toList.take (a.size - 4)))
        rw [hlen] at h3
        exact h3
      · intro h
        rw [← h, List.take_append_drop]
    obtain ⟨K, hK⟩ := ht
    refine ⟨K, fun k hk => ?_⟩
    simp only [concordanceref02_Open.f]
    rw [if_neg (by omega), hw, if_pos (by omega), if_pos (by omega), Int.toNat_natCast]
    have hk2 := hK k hk
    simp only at hk2
    rw [hk2]
    simp only [Option.bind_some]
    by_cases hS : Sealed a.data.toList
    · rw [if_pos (e.mpr hS), if_pos hS]
    · rw [if_neg (fun h => hS (e.mp h)), if_neg hS]

set_option maxRecDepth 100000 in
theorem speaks20 : concordancelaw02_speaks.f 20 = some true := by decide +kernel
theorem speaks : Ev (fun k => concordancelaw02_speaks.f k) true := Ev.of (k := 20) (fun k => concordancelaw02_speaks.mono k) speaks20

end Go.Proofs.YtdcnfekcbijfgaaDoor.SB

/-
  Numbers in bytes: what Put and Get of layer 2 and of its reference compute, and the order of such bytes.
-/
import Derived.Test.YtdcnfekcbijfgaaDoorSumBase
import Derived.Test.YtdcnfekcbijfgaaDoorPAx3
import Derived.Sort.Walk0
set_option linter.unusedVariables false
namespace Go.Proofs.YtdcnfekcbijfgaaDoor.SB
open Go.RowKit Go.Proofs.YtdcnfekcbijfgaaDoor.PA Go.Proofs.YtdcnfekcbijfgaaDoorW.PrintWords Go.Proofs.YtdcnfekcbijfgaaDoorW.PrintLast Go.Proofs.YtdcnfekcbijfgaaDoorW.PrintMore

/-- A number's bytes, so many, the greatest first. -/
def be (n : Nat) : Nat → List UInt8
  | 0 => []
  | s + 1 => be (n / 256) s ++ [UInt8.ofNat (n % 256)]

theorem be_length (s : Nat) : ∀ n, (be n s).length = s := by
  induction s with
  | zero => intro n; rfl
  | succ s ih => intro n; simp only [be, List.length_append, ih, List.length_cons, List.length_nil]

/-- The number of bytes. -/
def num (l : List UInt8) : Nat := l.foldl (fun n b => n * 256 + b.toNat) 0

theorem num_snoc (l : List UInt8) (b : UInt8) : num (l ++ [b]) = num l * 256 + b.toNat := by unfold num; rw [List.foldl_append]; rfl

theorem num_be (s : Nat) : ∀ n, n < 256 ^ s → num (be n s) = n := by
  induction s with
  | zero => intro n h; rw [Nat.pow_zero] at h; have : n = 0 := by omega
            rw [this]; rfl
  | succ s ih =>
    intro n h
    rw [Nat.pow_succ] at h
    simp only [be]
    rw [num_snoc, ih (n / 256) (by omega)]
    have : (UInt8.ofNat (n % 256)).toNat = n % 256 := by
      rw [UInt8.toNat_ofNat']; omega
    rw [this]
    omega

theorem num_lt (l : List UInt8) : num l < 256 ^ l.length := by
  induction h : l.length generalizing l with
  | zero =>
    have : l = [] := List.eq_nil_of_length_eq_zero h
    subst this
    simp [num]
  | succ k ih =>
    obtain ⟨m, b, rfl⟩ : ∃ m b, l = m ++ [b] := by
      have : l ≠ [] := by intro e; subst e; simp at h
      exact ⟨l.dropLast, l.getLast this, (List.dropLast_concat_getLast this).symm⟩
    rw [num_snoc]
    have hk : m.length = k := by simpa using h
    have := ih m hk
    have := b.toNat_lt
    rw [Nat.pow_succ]
    omega

/-- The same bytes as whole numbers, built from the least on. -/
def bi (n : Nat) : Nat → List Int
  | 0 => []
  | s + 1 => ((n / 256 ^ s % 256 : Nat) : Int) :: bi n s

theorem bi_length (n s : Nat) : (bi n s).length = s := by
  induction s with
  | zero => rfl
  | succ s ih => simp only [bi, List.length_cons, ih]

theorem bi_snoc (s : Nat) : ∀ n, bi n (s + 1) = bi (n / 256) s ++ [((n % 256 : Nat) : Int)] := by
  induction s with
  | zero => intro n; simp only [bi, Nat.pow_zero, Nat.div_one, List.nil_append]
  | succ s ih =>
    intro n
    rw [bi, ih n]
    rw [show bi (n / 256) (s + 1) = ((n / 256 / 256 ^ s % 256 : Nat) : Int) :: bi (n / 256) s from rfl]
    rw [Nat.div_div_eq_div_mul, show 256 * 256 ^ s = 256 ^ (s + 1) by rw [Nat.pow_succ, Nat.mul_comm]]
    rfl

theorem bi_be (s : Nat) : ∀ n, Lib.bytesOf (bi n s) = be n s := by
  induction s with
  | zero => intro n; rfl
  | succ s ih =>
    intro n
    rw [bi_snoc]
    have := ih (n / 256)
    unfold Lib.bytesOf at this ⊢
    rw [List.map_append, this]
    simp only [be, List.map_cons, List.map_nil, Int.toNat_natCast]

theorem pow_256 (s : Nat) : 256 ^ s = 2 ^ (8 * s) := by rw [Nat.pow_mul]

theorem shr_pow (m i : Nat) (hi : i ≤ 8) : shr .i64 (m : Int) (8 * (i : Int)) = ((m / 256 ^ i : Nat) : Int) := by
  unfold shr
  rw [show (8 * (i : Int)).toNat = 8 * i by omega, show IntKind.i64.bits = 64 from rfl, Nat.min_eq_left (by omega), pow_256, Int.natCast_ediv, Int.natCast_pow]
  rfl

/-- What Put answers. -/
def putL (n size : Int) : List UInt8 := if 1 ≤ size ∧ size ≤ 7 ∧ 0 ≤ n ∧ n.toNat < 256 ^ size.toNat then be n.toNat size.toNat else []

theorem set_last (s : Nat) (v : Int) (l : List Int) : (List.replicate (s + 1) (0 : Int) ++ l).set s v = List.replicate s (0 : Int) ++ v :: l := by
  rw [List.replicate_succ', List.append_assoc]
  rw [List.set_append_right _ _ (by simp)]
  simp

theorem put_round (m s : Nat) (hm : m ≤ 9223372036854775807) (hs : s ≤ 7) (k : Nat) (d : Nat) : ∀ i, i + d = s →
    sum_Put.l0 (k + d + 1) (m : Int) (s : Int) (List.replicate d 0 ++ bi m i) (s : Int) (i : Int) = some (strOfNums (bi m s)) := by
  induction d with
  | zero =>
    intro i hi
    simp only [sum_Put.l0]
    rw [if_neg (by omega)]
    obtain rfl : i = s := by omega
    simp
  | succ d ih =>
    intro i hi
    have w1 : wrap64 (8 * (i : Int)) = 8 * (i : Int) := by unfold wrap64; omega
    have w2 : wrap64 (wrap64 ((s : Int) - 1) - (i : Int)) = (d : Int) := by unfold wrap64; omega
    have w3 : wrap64 ((i : Int) + 1) = ((i + 1 : Nat) : Int) := by unfold wrap64; omega
    have c1 : (i : Int) < (s : Int) := by omega
    have c2 : (0 : Int) ≤ 8 * (i : Int) := by omega
    have hl : (List.replicate (d + 1) (0 : Int) ++ bi m i).length = d + 1 + i := by rw [List.length_append, List.length_replicate, bi_length]
    have c3 : (d : Int) < ((List.replicate (d + 1) (0 : Int) ++ bi m i).length : Int) := by rw [hl]; omega
    have hv : shr .i64 (m : Int) (8 * (i : Int)) % 256 = ((m / 256 ^ i % 256 : Nat) : Int) := by
      rw [shr_pow m i (by omega)]
      generalize m / 256 ^ i = q at *
      omega
    have e := ih (i + 1) (by omega)
    obtain ⟨K, hK⟩ : ∃ K, K = k + d + 1 := ⟨_, rfl⟩
    rw [show k + (d + 1) + 1 = K + 1 by omega]
    simp only [sum_Put.l0]
    rw [w1, w2, w3, if_pos c1, if_pos c2, if_pos (by omega), if_pos c3, hv, Int.toNat_natCast, set_last, hK]
    exact e

theorem put_f (n size : Int) (hn : n ≤ 9223372036854775807) : ∃ t, Ev (fun k => sum_Put.f k n size) t ∧ t.data.toList = putL n size := by
  by_cases hr : 1 ≤ size ∧ size ≤ 7 ∧ 0 ≤ n
  · obtain ⟨h1, h7, h0⟩ := hr
    obtain ⟨s, rfl⟩ := Int.eq_ofNat_of_zero_le (show 0 ≤ size by omega)
    obtain ⟨m, rfl⟩ := Int.eq_ofNat_of_zero_le h0
    have w1 : wrap64 (8 * (s : Int)) = 8 * (s : Int) := by unfold wrap64; omega
    have hsh : shr .i64 (m : Int) (8 * (s : Int)) = ((m / 256 ^ s : Nat) : Int) := shr_pow m s (by omega)
    have hp : 0 < 256 ^ s := Nat.pow_pos (by decide)
    have hputL : putL (m : Int) (s : Int) = if m < 256 ^ s then be m s else [] := by
      unfold putL
      rw [Int.toNat_natCast, Int.toNat_natCast]
      by_cases h : m < 256 ^ s
      · rw [if_pos h, if_pos ⟨h1, h7, h0, h⟩]
      · rw [if_neg h, if_neg (fun h2 => h h2.2.2.2)]
    have hE : ∀ k, sum_Put.f k (m : Int) (s : Int) = sum_Put.j0 k (m : Int) (s : Int) (((m / 256 ^ s : Nat) : Int) != 0) := by
      intro k
      unfold sum_Put.f
      rw [if_neg (by omega), if_neg (by omega), if_neg (by omega), w1, if_pos (by omega), hsh]
    by_cases h : m < 256 ^ s
    · refine ⟨strOfNums (bi m s), ?_, by rw [strL, bi_be, hputL, if_pos h]⟩
      refine Ev.of (k := s + 2) (fun k => sum_Put.mono _ _ k) ?_
      show sum_Put.f (s + 2) (m : Int) (s : Int) = _
      rw [hE, Nat.div_eq_of_lt h]
      have e := put_round m s (by omega) (by omega) 0 s 0 (by omega)
      rw [show bi m 0 = [] from rfl, List.append_nil, Nat.zero_add] at e
      obtain ⟨K, hK⟩ : ∃ K, K = s + 1 := ⟨_, rfl⟩
      rw [show s + 2 = K + 1 by omega]
      simp only [sum_Put.j0]
      rw [if_neg (by simp), if_pos (by omega), if_pos (by omega), Int.toNat_natCast]
      simp only [Option.bind_some]
      rw [List.length_replicate, hK]
      exact e
    · refine ⟨⟨#[]⟩, ?_, by rw [hputL, if_neg h]⟩
      refine ⟨1, fun k hk => ?_⟩
      obtain ⟨K, rfl⟩ : ∃ K, k = K + 1 := ⟨k - 1, by omega⟩
      show sum_Put.f (K + 1) (m : Int) (s : Int) = _
      rw [hE]
      have : m / 256 ^ s ≠ 0 := by
        intro e
        rw [Nat.div_eq_zero_iff] at e
        omega
      simp only [sum_Put.j0]
      rw [if_pos (by rw [bne_iff_ne]; omega)]
  · refine ⟨⟨#[]⟩, ?_, ?_⟩
    · refine ⟨1, fun k hk => ?_⟩
      obtain ⟨K, rfl⟩ : ∃ K, k = K + 1 := ⟨k - 1, by omega⟩
      have hj : sum_Put.j0 (K + 1) n size true = some ⟨#[]⟩ := by simp only [sum_Put.j0]; rw [if_pos trivial]
      show sum_Put.f (K + 1) n size = _
      unfold sum_Put.f
      by_cases c1 : size < 1
      · rw [if_pos c1, hj]
      · rw [if_neg c1]
        by_cases c2 : size > 7
        · rw [if_pos c2, hj]
        · rw [if_neg c2, if_pos (by omega), hj]
    · unfold putL
      rw [if_neg (fun h => hr ⟨h.1, h.2.1, h.2.2.1⟩)]

/-! ### the reference's Put -/
theorem refPut_round (m s : Nat) (hm : m ≤ 9223372036854775807) (hs : s ≤ 7) (k : Nat) (d : Nat) : ∀ i z, i + d = s → z.data.toList = Lib.bytesOf (bi m i) →
    ∃ t, concordanceref02_Put.l0 (k + d + 1) ((m / 256 ^ i : Nat) : Int) (s : Int) z (i : Int) = some t ∧ t.data.toList = if m < 256 ^ s then be m s else [] := by
  induction d with
  | zero =>
    intro i z hi hz
    obtain rfl : i = s := by omega
    have hp : 0 < 256 ^ i := Nat.pow_pos (by decide)
    simp only [concordanceref02_Put.l0]
    rw [if_neg (by omega)]
    by_cases h : m < 256 ^ i
    · rw [Nat.div_eq_of_lt h, if_neg (by decide), if_pos h]
      exact ⟨z, rfl, by rw [hz, bi_be]⟩
    · have : m / 256 ^ i ≠ 0 := by
        intro e
        rw [Nat.div_eq_zero_iff] at e
        omega
      have h2 : ((m / 256 ^ i : Nat) : Int) > 0 := by generalize m / 256 ^ i = q at *; omega
      rw [if_pos h2, if_neg h]
      exact ⟨_, rfl, rfl⟩
  | succ d ih =>
    intro i z hi hz
    have w3 : wrap64 ((i : Int) + 1) = ((i + 1 : Nat) : Int) := by unfold wrap64; omega
    have hle : m / 256 ^ i ≤ m := Nat.div_le_self _ _
    have hq : wrap64 (Int.tdiv ((m / 256 ^ i : Nat) : Int) 256) = ((m / 256 ^ (i + 1) : Nat) : Int) := by
      have e : m / 256 ^ (i + 1) = m / 256 ^ i / 256 := by rw [Nat.pow_succ, Nat.div_div_eq_div_mul]
      rw [e, Int.tdiv_eq_ediv_of_nonneg (Int.natCast_nonneg _)]
      generalize m / 256 ^ i = q at *
      unfold wrap64
      omega
    have hd : Int.tmod ((m / 256 ^ i : Nat) : Int) 256 % 256 = ((m / 256 ^ i % 256 : Nat) : Int) := by
      rw [Int.tmod_eq_emod_of_nonneg (Int.natCast_nonneg _)]
      generalize m / 256 ^ i = q at *
      omega
    have hs1 : (strOfNums [((m / 256 ^ i % 256 : Nat) : Int)]).size = 1 := by rw [← sizeL, strL]; rfl
    have hzs : z.size = i := by rw [← sizeL, hz]; unfold Lib.bytesOf; rw [List.length_map, bi_length]
    have hz' : (strOfNums [((m / 256 ^ i % 256 : Nat) : Int)] ++ z).data.toList = Lib.bytesOf (bi m (i + 1)) := by
      rw [dataAppend, strL, hz]; rfl
    obtain ⟨t, ht, hl⟩ := ih (i + 1) (strOfNums [((m / 256 ^ i % 256 : Nat) : Int)] ++ z) (by omega) hz'
    refine ⟨t, ?_, hl⟩
    obtain ⟨K, hK⟩ : ∃ K, K = k + d + 1 := ⟨_, rfl⟩
    rw [show k + (d + 1) + 1 = K + 1 by omega]
    simp only [concordanceref02_Put.l0]
    rw [if_pos (by omega), hd, hq, w3]
    simp only [Option.bind_some]
    rw [hs1, hzs, if_pos (by omega), hK]
    exact ht

theorem refPut_f (n size : Int) (hn : n ≤ 9223372036854775807) : ∃ t, Ev (fun k => concordanceref02_Put.f k n size) t ∧ t.data.toList = putL n size := by
  by_cases hr : 1 ≤ size ∧ size ≤ 7 ∧ 0 ≤ n
  · obtain ⟨h1, h7, h0⟩ := hr
    obtain ⟨s, rfl⟩ := Int.eq_ofNat_of_zero_le (show 0 ≤ size by omega)
    obtain ⟨m, rfl⟩ := Int.eq_ofNat_of_zero_le h0
    have hputL : putL (m : Int) (s : Int) = if m < 256 ^ s then be m s else [] := by
      unfold putL
      rw [Int.toNat_natCast, Int.toNat_natCast]
      by_cases h : m < 256 ^ s
      · rw [if_pos h, if_pos ⟨h1, h7, h0, h⟩]
      · rw [if_neg h, if_neg (fun h2 => h h2.2.2.2)]
    obtain ⟨t, ht, hl⟩ := refPut_round m s (by omega) (by omega) 0 s 0 ⟨#[]⟩ (by omega) rfl
    refine ⟨t, Ev.of (k := s + 2) (fun k => concordanceref02_Put.mono _ _ k) ?_, by rw [hputL, hl]⟩
    show concordanceref02_Put.f (s + 2) (m : Int) (s : Int) = _
    unfold concordanceref02_Put.f
    rw [if_neg (by omega), if_neg (by omega)]
    obtain ⟨K, hK⟩ : ∃ K, K = s + 1 := ⟨_, rfl⟩
    rw [show s + 2 = K + 1 by omega]
    simp only [concordanceref02_Put.j0]
    rw [if_neg (by simp), hK]
    rw [Nat.pow_zero, Nat.div_one, Nat.zero_add] at ht
    exact ht
  · refine ⟨⟨#[]⟩, ?_, ?_⟩
    · refine ⟨1, fun k hk => ?_⟩
      obtain ⟨K, rfl⟩ : ∃ K, k = K + 1 := ⟨k - 1, by omega⟩
      have hj : concordanceref02_Put.j0 (K + 1) n size true = some ⟨#[]⟩ := by simp only [concordanceref02_Put.j0]; rw [if_pos trivial]
      show concordanceref02_Put.f (K + 1) n size = _
      unfold concordanceref02_Put.f
      by_cases c1 : size < 1
      · rw [if_pos c1, hj]
      · rw [if_neg c1]
        by_cases c2 : size > 7
        · rw [if_pos c2, hj]
        · rw [if_neg c2, decide_eq_true (show n < 0 by omega), hj]
    · unfold putL
      rw [if_neg (fun h => hr ⟨h.1, h.2.1, h.2.2.1⟩)]

/-! ### Get -/
def getL (l : List UInt8) : Nat := if l.length > 7 then 0 else num l

theorem or_join (x b : Nat) (hx : x < 36028797018963968) (hb : b < 256) : Go.bits .or .i64 (wrap64 ((x : Int) * 256)) (wrap64 (b : Int)) = ((x * 256 + b : Nat) : Int) := by
  have w1 : wrap64 ((x : Int) * 256) = ((x * 256 : Nat) : Int) := by unfold wrap64; omega
  have w2 : wrap64 (b : Int) = (b : Int) := by unfold wrap64; omega
  rw [w1, w2]
  have := bits_join .i64 63 (by decide) (fun n h0 h1 => by rw [IntKind.wrap_i64]; omega) 8 ((x * 256 : Nat) : Int) (b : Int) (by omega) (by omega) (by omega) (by omega) (by omega) (by omega)
  rw [this]
  omega

theorem take_succ (a : ByteArray) (i : Nat) (h : i < a.size) : a.data.toList.take (i + 1) = a.data.toList.take i ++ [a[i]] := sum_Sum.take_snoc a i h

theorem num_take_lt (a : ByteArray) (i : Nat) (hi : i < 7) : num (a.data.toList.take i) < 36028797018963968 := by
  have h := num_lt (a.data.toList.take i)
  have h2 : (a.data.toList.take i).length ≤ 6 := by rw [List.length_take]; omega
  have h3 : 256 ^ (a.data.toList.take i).length ≤ 256 ^ 6 := Nat.pow_le_pow_right (by decide) h2
  have h4 : (256 : Nat) ^ 6 < 36028797018963968 := by decide
  omega

theorem get_round (a : ByteArray) (ha : a.size ≤ 7) (k : Nat) (d : Nat) : ∀ i, i + d = a.size →
    sum_Get.l0 (k + d + 1) a ((num (a.data.toList.take i) : Nat) : Int) (a.size : Int) (i : Int) = some ((num a.data.toList : Nat) : Int) := by
  induction d with
  | zero =>
    intro i hi
    simp only [sum_Get.l0]
    rw [if_neg (by omega), List.take_of_length_le (by rw [sizeL]; omega)]
  | succ d ih =>
    intro i hi
    have hlt : i < a.size := by omega
    have hb := a[i].toNat_lt
    have hx := num_take_lt a i (by omega)
    have w3 : wrap64 ((i : Int) + 1) = ((i + 1 : Nat) : Int) := by unfold wrap64; omega
    have e := ih (i + 1) (by omega)
    rw [take_succ a i hlt, num_snoc] at e
    obtain ⟨K, hK⟩ : ∃ K, K = k + d + 1 := ⟨_, rfl⟩
    rw [show k + (d + 1) + 1 = K + 1 by omega]
    simp only [sum_Get.l0]
    rw [if_pos (by omega), if_pos (by omega), if_pos (by omega), btL a i hlt, or_join _ _ hx hb, w3, hK]
    exact e

theorem get_f (a : ByteArray) : Ev (fun k => sum_Get.f k a) ((getL a.data.toList : Nat) : Int) := by
  unfold getL
  rw [sizeL]
  by_cases h : a.size > 7
  · rw [if_pos h]
    refine ⟨0, fun k _ => ?_⟩
    show sum_Get.f k a = _
    unfold sum_Get.f
    rw [if_pos (by omega)]
    rfl
  · rw [if_neg h]
    refine Ev.of (k := a.size + 1) (fun k => sum_Get.mono _ k) ?_
    show sum_Get.f (a.size + 1) a = _
    unfold sum_Get.f
    rw [if_neg (by omega)]
    have e := get_round a (by omega) 0 a.size 0 (by omega)
    rw [List.take_zero, Nat.zero_add] at e
    exact e

theorem refGet_round (a : ByteArray) (ha : a.size ≤ 7) (k : Nat) (d : Nat) : ∀ i, i + d = a.size →
    concordanceref02_Get.l0 (k + d + 1) a ((num (a.data.toList.take i) : Nat) : Int) (i : Int) = some ((num a.data.toList : Nat) : Int) := by
  induction d with
  | zero =>
    intro i hi
    simp only [concordanceref02_Get.l0]
    rw [if_neg (by omega), List.take_of_length_le (by rw [sizeL]; omega)]
  | succ d ih =>
    intro i hi
    have hlt : i < a.size := by omega
    have hb := a[i].toNat_lt
    have hx := num_take_lt a i (by omega)
    have w3 : wrap64 ((i : Int) + 1) = ((i + 1 : Nat) : Int) := by unfold wrap64; omega
    have e := ih (i + 1) (by omega)
    rw [take_succ a i hlt, num_snoc] at e
    have hv : wrap64 (wrap64 (256 * ((num (a.data.toList.take i) : Nat) : Int)) + wrap64 ((a[i].toNat : Nat) : Int)) = ((num (a.data.toList.take i) * 256 + a[i].toNat : Nat) : Int) := by
      generalize num (a.data.toList.take i) = x at *
      unfold wrap64
      omega
    obtain ⟨K, hK⟩ : ∃ K, K = k + d + 1 := ⟨_, rfl⟩
    rw [show k + (d + 1) + 1 = K + 1 by omega]
    simp only [concordanceref02_Get.l0]
    rw [if_pos (by omega), if_pos (by omega), if_pos (by omega), btL a i hlt, hv, w3, hK]
    exact e

theorem refGet_f (a : ByteArray) : Ev (fun k => concordanceref02_Get.f k a) ((getL a.data.toList : Nat) : Int) := by
  unfold getL
  rw [sizeL]
  by_cases h : a.size > 7
  · rw [if_pos h]
    refine ⟨1, fun k hk => ?_⟩
    obtain ⟨K, rfl⟩ : ∃ K, k = K + 1 := ⟨k - 1, by omega⟩
    show concordanceref02_Get.f (K + 1) a = _
    unfold concordanceref02_Get.f
    simp only [concordanceref02_Get.l0]
    rw [if_pos (by omega), if_neg (by omega)]
    rfl
  · rw [if_neg h]
    refine Ev.of (k := a.size + 1) (fun k => concordanceref02_Get.mono _ k) ?_
    show concordanceref02_Get.f (a.size + 1) a = _
    unfold concordanceref02_Get.f
    have e := refGet_round a (by omega) 0 a.size 0 (by omega)
    rw [List.take_zero, Nat.zero_add] at e
    exact e

end Go.Proofs.YtdcnfekcbijfgaaDoor.SB

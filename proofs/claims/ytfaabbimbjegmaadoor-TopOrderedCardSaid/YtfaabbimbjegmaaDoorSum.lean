/-
  Numbers in bytes, and sums: what Put, Get, mark, Seal and Open of layer 2 compute.
-/
import Derived.Test.YtfaabbimbjegmaaDoorPAll
import Derived.Sort.Walk0
import Derived.Lib.Bytes
import Derived.Lib.Strings
import Derived.KernelRfl
set_option linter.unusedVariables false
namespace Go.Proofs.YtfaabbimbjegmaaDoor.SB
open Go.RowKit Go.Proofs.YtfaabbimbjegmaaDoor.PA Go.Proofs.YtfaabbimbjegmaaDoorW.PrintWords Go.Proofs.YtfaabbimbjegmaaDoorW.PrintLast Go.Proofs.YtfaabbimbjegmaaDoorW.PrintMore

theorem ext {a b : ByteArray} (h : a.data.toList = b.data.toList) : a = b := by
  apply ByteArray.ext
  exact Array.ext' h
theorem sizeL (s : ByteArray) : s.data.toList.length = s.size := by rw [Array.length_toList]; rfl
theorem dataAppend (a b : ByteArray) : (a ++ b).data.toList = a.data.toList ++ b.data.toList := by
  rw [ByteArray.data_append, Array.toList_append]
theorem strL (xs : List Int) : (strOfNums xs).data.toList = Lib.bytesOf xs := by rw [← Lib.toList_data, Lib.strOfNums_toList]
theorem wf_bounds {n : Int} (h : (Lit.int .i64 n).wf = true) : -9223372036854775808 ≤ n ∧ n ≤ 9223372036854775807 := by
  simp only [Lit.wf, IntKind.min, IntKind.max, IntKind.signed, IntKind.bits, Bool.and_eq_true, decide_eq_true_eq] at h
  simpa using h
theorem btL (s : ByteArray) (i : Nat) (h : i < s.size) : bt s (i : Int) = ((s[i]'h).toNat : Int) := (bt_at s i h).symm
theorem btD (s : ByteArray) (i : Nat) (h : i < s.size) : bt s (i : Int) = ((s.data.toList.getD i 0).toNat : Int) := by
  rw [btL s i h]
  have h2 : i < s.data.toList.length := by rw [sizeL]; exact h
  rw [List.getD_eq_getElem?_getD, List.getElem?_eq_getElem h2]
  rfl

/-! ### the sum -/
/-- A number's four bytes, the least first. -/
def le4 (n : Nat) : List UInt8 := [UInt8.ofNat (n % 256), UInt8.ofNat (n / 256 % 256), UInt8.ofNat (n / 65536 % 256), UInt8.ofNat (n / 16777216 % 256)]
def markL (l : List UInt8) : List UInt8 := le4 (CrcPlain.crc l)
theorem markL_length (l : List UInt8) : (markL l).length = 4 := rfl

theorem mark_f (a : ByteArray) (h : a.size ≤ 9223372036854775807) : ∃ m, sum_mark.f a = some m ∧ m.data.toList = markL a.data.toList ∧ m.size = 4 := by
  have e : ∀ c : Nat, Lib.bytesOf [(c : Int) % 256, (c : Int) / 256 % 256, (c : Int) / 65536 % 256, (c : Int) / 16777216 % 256] = le4 c := by
    intro c
    simp only [Lib.bytesOf, List.map_cons, List.map_nil, le4]
    rw [show ((c : Int) % 256).toNat = c % 256 by omega, show ((c : Int) / 256 % 256).toNat = c / 256 % 256 by omega, show ((c : Int) / 65536 % 256).toNat = c / 65536 % 256 by omega, show ((c : Int) / 16777216 % 256).toNat = c / 16777216 % 256 by omega]
  have h1 : (strOfNums [((CrcPlain.crc a.data.toList : Nat) : Int) % 256, ((CrcPlain.crc a.data.toList : Nat) : Int) / 256 % 256, ((CrcPlain.crc a.data.toList : Nat) : Int) / 65536 % 256, ((CrcPlain.crc a.data.toList : Nat) : Int) / 16777216 % 256]).data.toList = markL a.data.toList := by
    rw [strL, e]; rfl
  refine ⟨_, ?_, h1, ?_⟩
  · unfold sum_mark.f sum_Sum.f
    rw [if_pos h]; rfl
  · rw [← sizeL, h1]; rfl

theorem seal_f (a : ByteArray) (h : a.size ≤ 9223372036854775803) : ∃ t, sum_Seal.f a = some t ∧ t.data.toList = a.data.toList ++ markL a.data.toList ∧ t.size = a.size + 4 := by
  obtain ⟨m, hm, hl, hs⟩ := mark_f a (by omega)
  refine ⟨a ++ m, ?_, by rw [dataAppend, hl], by rw [ByteArray.size_append, hs]⟩
  unfold sum_Seal.f
  rw [hm]
  simp only [Option.bind_some]
  rw [if_pos (by omega)]

/-- A text is a sealed one. -/
def Sealed (l : List UInt8) : Prop := l.drop (l.length - 4) = markL (l.take (l.length - 4))
instance (l : List UInt8) : Decidable (Sealed l) := by unfold Sealed; infer_instance

theorem extract_front (a : ByteArray) (n : Nat) : (a.extract 0 n).data.toList = a.data.toList.take n := by
  rw [Lib.extract_data, List.drop_zero, Nat.sub_zero]
theorem extract_back (a : ByteArray) (n : Nat) : (a.extract n a.size).data.toList = a.data.toList.drop n := by
  rw [Lib.extract_data, List.take_of_length_le (by rw [List.length_drop, sizeL]; omega)]

theorem open_f (a : ByteArray) (h : a.size ≤ 9223372036854775807) :
    sum_Open.f a = some (if a.size < 4 then (⟨#[]⟩, 3) else if Sealed a.data.toList then (a.extract 0 (a.size - 4), 0) else (⟨#[]⟩, 5)) := by
  unfold sum_Open.f
  rw [if_pos h]
  by_cases h4 : a.size < 4
  · rw [if_pos h4, if_pos h4]
  · rw [if_neg h4, if_neg h4]
    have hsz : (a.extract 0 (a.size - 4)).size = a.size - 4 := by rw [ByteArray.size_extract]; omega
    obtain ⟨m, hm, hl, _⟩ := mark_f (a.extract 0 (a.size - 4)) (by omega)
    rw [hm]
    simp only [Option.bind_some]
    have e : ((a.extract (a.size - 4) a.size).toList = m.toList) ↔ Sealed a.data.toList := by
      rw [Lib.toList_data, Lib.toList_data, hl, extract_back, extract_front]
      unfold Sealed
      rw [sizeL]
    by_cases hS : Sealed a.data.toList
    · rw [if_pos (e.mpr hS), if_pos hS]
    · rw [if_neg (fun h => hS (e.mp h)), if_neg hS]

theorem sealed_seal (l : List UInt8) : Sealed (l ++ markL l) := by
  unfold Sealed
  have : (l ++ markL l).length - 4 = l.length := by rw [List.length_append, markL_length]; omega
  rw [this, List.drop_left, List.take_left]

/-- What was sealed is opened. -/
theorem open_seal (a t : ByteArray) (h : a.size ≤ 9223372036854775803) (ht : t.data.toList = a.data.toList ++ markL a.data.toList) : sum_Open.f t = some (a, 0) := by
  have hs : t.size = a.size + 4 := by rw [← sizeL, ht, List.length_append, markL_length, sizeL]
  rw [open_f t (by omega), if_neg (by omega), if_pos (by rw [ht]; exact sealed_seal _)]
  have : t.extract 0 (t.size - 4) = a := by
    apply ext
    rw [extract_front, ht, hs, show a.size + 4 - 4 = a.data.toList.length by rw [sizeL]; omega, List.take_left]
  rw [this]

/-! ### the reference's sum -/
theorem wrap_small {i : Nat} (h : i < 9223372036854775807) : wrap64 ((i : Int) + 1) = ((i + 1 : Nat) : Int) := by unfold wrap64; omega

/-- A number's bytes, so many, the greatest first. -/
def be (n : Nat) : Nat → List UInt8
  | 0 => []
  | s + 1 => be (n / 256) s ++ [UInt8.ofNat (n % 256)]

theorem be_length (s : Nat) : ∀ n, (be n s).length = s := by
  induction s with
  | zero => intro n; rfl
  | succ s ih => intro n; simp only [be, List.length_append, ih, List.length_cons, List.length_nil]

/-- The number of bytes. -/
def num (l : List UInt8) : Nat := l.foldl (fun n b => n * 256 + b.toNat) 0

theorem num_snoc (l : List UInt8) (b : UInt8) : num (l ++ [b]) = num l * 256 + b.toNat := by unfold num; rw [List.foldl_append]; rfl

theorem num_be (s : Nat) : ∀ n, n < 256 ^ s → num (be n s) = n := by
  induction s with
  | zero => intro n h; rw [Nat.pow_zero] at h; have : n = 0 := by omega
            rw [this]; rfl
  | succ s ih =>
    intro n h
    rw [Nat.pow_succ] at h
    simp only [be]
    rw [num_snoc, ih (n / 256) (by omega)]
    have : (UInt8.ofNat (n % 256)).toNat = n % 256 := by
      rw [UInt8.toNat_ofNat']; omega
    rw [this]
    omega

theorem num_lt (l : List UInt8) : num l < 256 ^ l.length := by
  induction h : l.length generalizing l with
  | zero =>
    have : l = [] := List.eq_nil_of_length_eq_zero h
    subst this
    simp [num]
  | succ k ih =>
    obtain ⟨m, b, rfl⟩ : ∃ m b, l = m ++ [b] := by
      have : l ≠ [] := by intro e; subst e; simp at h
      exact ⟨l.dropLast, l.getLast this, (List.dropLast_concat_getLast this).symm⟩
    rw [num_snoc]
    have hk : m.length = k := by simpa using h
    have := ih m hk
    have := b.toNat_lt
    rw [Nat.pow_succ]
    omega

/-- The same bytes as whole numbers, built from the least on. -/
def bi (n : Nat) : Nat → List Int
  | 0 => []
  | s + 1 => ((n / 256 ^ s % 256 : Nat) : Int) :: bi n s

theorem bi_length (n s : Nat) : (bi n s).length = s := by
  induction s with
  | zero => rfl
  | succ s ih => simp only [bi, List.length_cons, ih]

theorem bi_snoc (s : Nat) : ∀ n, bi n (s + 1) = bi (n / 256) s ++ [((n % 256 : Nat) : Int)] := by
  induction s with
  | zero => intro n; simp only [bi, Nat.pow_zero, Nat.div_one, List.nil_append]
  | succ s ih =>
    intro n
    rw [bi, ih n]
    rw [show bi (n / 256) (s + 1) = ((n / 256 / 256 ^ s % 256 : Nat) : Int) :: bi (n / 256) s from rfl]
    rw [Nat.div_div_eq_div_mul, show 256 * 256 ^ s = 256 ^ (s + 1) by rw [Nat.pow_succ, Nat.mul_comm]]
    rfl

theorem bi_be (s : Nat) : ∀ n, Lib.bytesOf (bi n s) = be n s := by
  induction s with
  | zero => intro n; rfl
  | succ s ih =>
    intro n
    rw [bi_snoc]
    have := ih (n / 256)
    unfold Lib.bytesOf at this ⊢
    rw [List.map_append, this]
    simp only [be, List.map_cons, List.map_nil, Int.toNat_natCast]

theorem pow_256 (s : Nat) : 256 ^ s = 2 ^ (8 * s) := by rw [Nat.pow_mul]

theorem shr_pow (m i : Nat) (hi : i ≤ 8) : shr .i64 (m : Int) (8 * (i : Int)) = ((m / 256 ^ i : Nat) : Int) := by
  unfold shr
  rw [show (8 * (i : Int)).toNat = 8 * i by omega, show IntKind.i64.bits = 64 from rfl, Nat.min_eq_left (by omega), pow_256, Int.natCast_ediv, Int.natCast_pow]
  rfl

/-- What Put answers. -/
def putL (n size : Int) : List UInt8 := if 1 ≤ size ∧ size ≤ 7 ∧ 0 ≤ n ∧ n.toNat < 256 ^ size.toNat then be n.toNat size.toNat else []

theorem set_last (s : Nat) (v : Int) (l : List Int) : (List.replicate (s + 1) (0 : Int) ++ l).set s v = List.replicate s (0 : Int) ++ v :: l := by
  rw [List.replicate_succ', List.append_assoc]
  rw [List.set_append_right _ _ (by simp)]
  simp

theorem put_round (m s : Nat) (hm : m ≤ 9223372036854775807) (hs : s ≤ 7) (k : Nat) (d : Nat) : ∀ i, i + d = s →
    sum_Put.l0 (k + d + 1) (m : Int) (s : Int) (List.replicate d 0 ++ bi m i) (s : Int) (i : Int) = some (strOfNums (bi m s)) := by
  induction d with
  | zero =>
    intro i hi
    simp only [sum_Put.l0]
    rw [if_neg (by omega)]
    obtain rfl : i = s := by omega
    simp
  | succ d ih =>
    intro i hi
    have w1 : wrap64 (8 * (i : Int)) = 8 * (i : Int) := by unfold wrap64; omega
    have w2 : wrap64 (wrap64 ((s : Int) - 1) - (i : Int)) = (d : Int) := by unfold wrap64; omega
    have w3 : wrap64 ((i : Int) + 1) = ((i + 1 : Nat) : Int) := by unfold wrap64; omega
    have c1 : (i : Int) < (s : Int) := by omega
    have c2 : (0 : Int) ≤ 8 * (i : Int) := by omega
    have hl : (List.replicate (d + 1) (0 : Int) ++ bi m i).length = d + 1 + i := by rw [List.length_append, List.length_replicate, bi_length]
    have c3 : (d : Int) < ((List.replicate (d + 1) (0 : Int) ++ bi m i).length : Int) := by rw [hl]; omega
    have hv : shr .i64 (m : Int) (8 * (i : Int)) % 256 = ((m / 256 ^ i % 256 : Nat) : Int) := by
      rw [shr_pow m i (by omega)]
      generalize m / 256 ^ i = q at *
      omega
    have e := ih (i + 1) (by omega)
    obtain ⟨K, hK⟩ : ∃ K, K = k + d + 1 := ⟨_, rfl⟩
    rw [show k + (d + 1) + 1 = K + 1 by omega]
    simp only [sum_Put.l0]
    rw [w1, w2, w3, if_pos c1, if_pos c2, if_pos (by omega), if_pos c3, hv, Int.toNat_natCast, set_last, hK]
    exact e

theorem put_f (n size : Int) (hn : n ≤ 9223372036854775807) : ∃ t, Ev (fun k => sum_Put.f k n size) t ∧ t.data.toList = putL n size := by
  by_cases hr : 1 ≤ size ∧ size ≤ 7 ∧ 0 ≤ n
  · obtain ⟨h1, h7, h0⟩ := hr
    obtain ⟨s, rfl⟩ := Int.eq_ofNat_of_zero_le (show 0 ≤ size by omega)
    obtain ⟨m, rfl⟩ := Int.eq_ofNat_of_zero_le h0
    have w1 : wrap64 (8 * (s : Int)) = 8 * (s : Int) := by unfold wrap64; omega
    have hsh : shr .i64 (m : Int) (8 * (s : Int)) = ((m / 256 ^ s : Nat) : Int) := shr_pow m s (by omega)
    have hp : 0 < 256 ^ s := Nat.pow_pos (by decide)
    have hputL : putL (m : Int) (s : Int) = if m < 256 ^ s then be m s else [] := by
      unfold putL
      rw [Int.toNat_natCast, Int.toNat_natCast]
      by_cases h : m < 256 ^ s
      · rw [if_pos h, if_pos ⟨h1, h7, h0, h⟩]
      · rw [if_neg h, if_neg (fun h2 => h h2.2.2.2)]
    have hE : ∀ k, sum_Put.f k (m : Int) (s : Int) = sum_Put.j0 k (m : Int) (s : Int) (((m / 256 ^ s : Nat) : Int) != 0) := by
      intro k
      unfold sum_Put.f
      rw [if_neg (by omega), if_neg (by omega), if_neg (by omega), w1, if_pos (by omega), hsh]
    by_cases h : m < 256 ^ s
    · refine ⟨strOfNums (bi m s), ?_, by rw [strL, bi_be, hputL, if_pos h]⟩
      refine Ev.of (k := s + 2) (fun k => sum_Put.mono _ _ k) ?_
      show sum_Put.f (s + 2) (m : Int) (s : Int) = _
      rw [hE, Nat.div_eq_of_lt h]
      have e := put_round m s (by omega) (by omega) 0 s 0 (by omega)
      rw [show bi m 0 = [] from rfl, List.append_nil, Nat.zero_add] at e
      obtain ⟨K, hK⟩ : ∃ K, K = s + 1 := ⟨_, rfl⟩
      rw [show s + 2 = K + 1 by omega]
      simp only [sum_Put.j0]
      rw [if_neg (by simp), if_pos (by omega), if_pos (by omega), Int.toNat_natCast]
      simp only [Option.bind_some]
      rw [List.length_replicate, hK]
      exact e
    · refine ⟨⟨#[]⟩, ?_, by rw [hputL, if_neg h]⟩
      refine ⟨1, fun k hk => ?_⟩
      obtain ⟨K, rfl⟩ : ∃ K, k = K + 1 := ⟨k - 1, by omega⟩
      show sum_Put.f (K + 1) (m : Int) (s : Int) = _
      rw [hE]
      have : m / 256 ^ s ≠ 0 := by
        intro e
        rw [Nat.div_eq_zero_iff] at e
        omega
      simp only [sum_Put.j0]
      rw [if_pos (by rw [bne_iff_ne]; omega)]
  · refine ⟨⟨#[]⟩, ?_, ?_⟩
    · refine ⟨1, fun k hk => ?_⟩
      obtain ⟨K, rfl⟩ : ∃ K, k = K + 1 := ⟨k - 1, by omega⟩
      have hj : sum_Put.j0 (K + 1) n size true = some ⟨#[]⟩ := by simp only [sum_Put.j0]; rw [if_pos trivial]
      show sum_Put.f (K + 1) n size = _
      unfold sum_Put.f
      by_cases c1 : size < 1
      · rw [if_pos c1, hj]
      · rw [if_neg c1]
        by_cases c2 : size > 7
        · rw [if_pos c2, hj]
        · rw [if_neg c2, if_pos (by omega), hj]
    · unfold putL
      rw [if_neg (fun h => hr ⟨h.1, h.2.1, h.2.2.1⟩)]

/-! ### the reference's Put -/
def getL (l : List UInt8) : Nat := if l.length > 7 then 0 else num l

theorem or_join (x b : Nat) (hx : x < 36028797018963968) (hb : b < 256) : Go.bits .or .i64 (wrap64 ((x : Int) * 256)) (wrap64 (b : Int)) = ((x * 256 + b : Nat) : Int) := by
  have w1 : wrap64 ((x : Int) * 256) = ((x * 256 : Nat) : Int) := by unfold wrap64; omega
  have w2 : wrap64 (b : Int) = (b : Int) := by unfold wrap64; omega
  rw [w1, w2]
  have := bits_join .i64 63 (by decide) (fun n h0 h1 => by rw [IntKind.wrap_i64]; omega) 8 ((x * 256 : Nat) : Int) (b : Int) (by omega) (by omega) (by omega) (by omega) (by omega) (by omega)
  rw [this]
  omega

theorem take_succ (a : ByteArray) (i : Nat) (h : i < a.size) : a.data.toList.take (i + 1) = a.data.toList.take i ++ [a[i]] := sum_Sum.take_snoc a i h

theorem num_take_lt (a : ByteArray) (i : Nat) (hi : i < 7) : num (a.data.toList.take i) < 36028797018963968 := by
  have h := num_lt (a.data.toList.take i)
  have h2 : (a.data.toList.take i).length ≤ 6 := by rw [List.length_take]; omega
  have h3 : 256 ^ (a.data.toList.take i).length ≤ 256 ^ 6 := Nat.pow_le_pow_right (by decide) h2
  have h4 : (256 : Nat) ^ 6 < 36028797018963968 := by decide
  omega

theorem get_round (a : ByteArray) (ha : a.size ≤ 7) (k : Nat) (d : Nat) : ∀ i, i + d = a.size →
    sum_Get.l0 (k + d + 1) a ((num (a.data.toList.take i) : Nat) : Int) (a.size : Int) (i : Int) = some ((num a.data.toList : Nat) : Int) := by
  induction d with
  | zero =>
    intro i hi
    simp only [sum_Get.l0]
    rw [if_neg (by omega), List.take_of_length_le (by rw [sizeL]; omega)]
  | succ d ih =>
    intro i hi
    have hlt : i < a.size := by omega
    have hb := a[i].toNat_lt
    have hx := num_take_lt a i (by omega)
    have w3 : wrap64 ((i : Int) + 1) = ((i + 1 : Nat) : Int) := by unfold wrap64; omega
    have e := ih (i + 1) (by omega)
    rw [take_succ a i hlt, num_snoc] at e
    obtain ⟨K, hK⟩ : ∃ K, K = k + d + 1 := ⟨_, rfl⟩
    rw [show k + (d + 1) + 1 = K + 1 by omega]
    simp only [sum_Get.l0]
    rw [if_pos (by omega), if_pos (by omega), if_pos (by omega), btL a i hlt, or_join _ _ hx hb, w3, hK]
    exact e

theorem get_f (a : ByteArray) : Ev (fun k => sum_Get.f k a) ((getL a.data.toList : Nat) : Int) := by
  unfold getL
  rw [sizeL]
  by_cases h : a.size > 7
  · rw [if_pos h]
    refine ⟨0, fun k _ => ?_⟩
    show sum_Get.f k a = _
    unfold sum_Get.f
    rw [if_pos (by omega)]
    rfl
  · rw [if_neg h]
    refine Ev.of (k := a.size + 1) (fun k => sum_Get.mono _ k) ?_
    show sum_Get.f (a.size + 1) a = _
    unfold sum_Get.f
    rw [if_neg (by omega)]
    have e := get_round a (by omega) 0 a.size 0 (by omega)
    rw [List.take_zero, Nat.zero_add] at e
    exact e


end Go.Proofs.YtfaabbimbjegmaaDoor.SB

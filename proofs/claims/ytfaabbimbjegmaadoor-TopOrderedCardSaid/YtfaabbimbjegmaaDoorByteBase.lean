/-
  Plain facts on texts and their bytes, and on whole numbers in bytes.
-/
import Derived.Test.YtfaabbimbjegmaaDoorWMore
import Derived.Test.YtfaabbimbjegmaaDoorWNEv
import Derived.Laws.BitsLemmas
import Derived.Lib.Bytes
import Derived.Lib.Strings
import Derived.Sort.Walk0
set_option linter.unusedVariables false
namespace Go.Proofs.YtfaabbimbjegmaaDoor.BB
open Go.RowKit Go.Proofs.YtfaabbimbjegmaaDoorW.PrintWords Go.Proofs.YtfaabbimbjegmaaDoorW.PrintLast Go.Proofs.YtfaabbimbjegmaaDoorW.PrintMore

theorem ext {a b : ByteArray} (h : a.data.toList = b.data.toList) : a = b := by
  apply ByteArray.ext
  exact Array.ext' h
theorem sizeL (s : ByteArray) : s.data.toList.length = s.size := by rw [Array.length_toList]; rfl
theorem dataAppend (a b : ByteArray) : (a ++ b).data.toList = a.data.toList ++ b.data.toList := by
  rw [ByteArray.data_append, Array.toList_append]
theorem strL (xs : List Int) : (strOfNums xs).data.toList = Lib.bytesOf xs := by rw [← Lib.toList_data, Lib.strOfNums_toList]
theorem wf_bounds {n : Int} (h : (Lit.int .i64 n).wf = true) : -9223372036854775808 ≤ n ∧ n ≤ 9223372036854775807 := by
  simp only [Lit.wf, IntKind.min, IntKind.max, IntKind.signed, IntKind.bits, Bool.and_eq_true, decide_eq_true_eq] at h
  simpa using h
theorem btL (s : ByteArray) (i : Nat) (h : i < s.size) : bt s (i : Int) = ((s[i]'h).toNat : Int) := (bt_at s i h).symm
theorem dataGet (s : ByteArray) (i : Nat) (h : i < s.size) : s.data.toList[i]'(by rw [sizeL]; exact h) = s[i] := rfl
theorem btD (s : ByteArray) (i : Nat) (h : i < s.size) : bt s (i : Int) = ((s.data.toList.getD i 0).toNat : Int) := by
  rw [btL s i h]
  have h2 : i < s.data.toList.length := by rw [sizeL]; exact h
  rw [List.getD_eq_getElem?_getD, List.getElem?_eq_getElem h2]
  rfl
theorem take_snoc (s : ByteArray) (i : Nat) (h : i < s.size) : s.data.toList.take (i + 1) = s.data.toList.take i ++ [s[i]] := by
  rw [List.take_succ_eq_append_getElem (by simpa using h)]; rfl
theorem drop_cons (s : ByteArray) (i : Nat) (h : i < s.size) : s.data.toList.drop i = s[i] :: s.data.toList.drop (i + 1) := by
  rw [List.drop_eq_getElem_cons (by simpa using h)]; rfl
theorem extract_front (a : ByteArray) (n : Nat) : (a.extract 0 n).data.toList = a.data.toList.take n := by
  rw [Lib.extract_data, List.drop_zero, Nat.sub_zero]
theorem extract_back (a : ByteArray) (n : Nat) : (a.extract n a.size).data.toList = a.data.toList.drop n := by
  rw [Lib.extract_data, List.take_of_length_le (by rw [List.length_drop, sizeL]; omega)]
theorem extract_one (a : ByteArray) (i : Nat) (h : i < a.size) : (a.extract i (i + 1)).data.toList = [a[i]] := by
  rw [Lib.extract_data, drop_cons a i h, show i + 1 - i = 1 by omega, List.take_succ_cons, List.take_zero]
theorem wrap_succ {i : Nat} (h : i < 9223372036854775807) : wrap64 ((i : Int) + 1) = ((i + 1 : Nat) : Int) := by unfold wrap64; omega
theorem wrap_id {i : Int} (h : -9223372036854775808 ≤ i ∧ i ≤ 9223372036854775807) : wrap64 i = i := by unfold wrap64; omega
/-- Bytes as whole numbers. -/
def ints (l : List UInt8) : List Int := l.map fun b => (b.toNat : Int)
theorem ints_append (l m : List UInt8) : ints (l ++ m) = ints l ++ ints m := by unfold ints; rw [List.map_append]
theorem ints_length (l : List UInt8) : (ints l).length = l.length := by unfold ints; rw [List.length_map]
theorem bytesOf_ints (l : List UInt8) : Lib.bytesOf (ints l) = l := by
  unfold ints Lib.bytesOf
  rw [List.map_map]
  conv => rhs; rw [← List.map_id l]
  apply List.map_congr_left
  intro b _
  simp
theorem str_ints (l : List UInt8) : (strOfNums (ints l)).data.toList = l := by rw [strL, bytesOf_ints]

/-- A number's bytes, so many, the greatest first. -/
def be (n : Nat) : Nat → List UInt8
  | 0 => []
  | s + 1 => be (n / 256) s ++ [UInt8.ofNat (n % 256)]
theorem be_length (s : Nat) : ∀ n, (be n s).length = s := by
  induction s with
  | zero => intro n; rfl
  | succ s ih => intro n; simp only [be, List.length_append, ih, List.length_cons, List.length_nil]
/-- The number of bytes. -/
def num (l : List UInt8) : Nat := l.foldl (fun n b => n * 256 + b.toNat) 0
theorem num_snoc (l : List UInt8) (b : UInt8) : num (l ++ [b]) = num l * 256 + b.toNat := by unfold num; rw [List.foldl_append]; rfl
theorem num_be (s : Nat) : ∀ n, n < 256 ^ s → num (be n s) = n := by
  induction s with
  | zero => intro n h; rw [Nat.pow_zero] at h; have : n = 0 := by omega
            rw [this]; rfl
  | succ s ih =>
    intro n h
    rw [Nat.pow_succ] at h
    simp only [be]
    rw [num_snoc, ih (n / 256) (by omega)]
    have : (UInt8.ofNat (n % 256)).toNat = n % 256 := by
      rw [UInt8.toNat_ofNat']; omega
    rw [this]
    omega
theorem num_lt (l : List UInt8) : num l < 256 ^ l.length := by
  induction h : l.length generalizing l with
  | zero =>
    have : l = [] := List.eq_nil_of_length_eq_zero h
    subst this
    simp [num]
  | succ k ih =>
    obtain ⟨m, b, rfl⟩ : ∃ m b, l = m ++ [b] := by
      have : l ≠ [] := by intro e; subst e; simp at h
      exact ⟨l.dropLast, l.getLast this, (List.dropLast_concat_getLast this).symm⟩
    rw [num_snoc]
    have hk : m.length = k := by simpa using h
    have := ih m hk
    have := b.toNat_lt
    rw [Nat.pow_succ]
    omega
theorem be_num (l : List UInt8) : be (num l) l.length = l := by
  induction h : l.length generalizing l with
  | zero => exact (List.eq_nil_of_length_eq_zero h).symm
  | succ k ih =>
    obtain ⟨m, b, rfl⟩ : ∃ m b, l = m ++ [b] := by
      have : l ≠ [] := by intro e; subst e; simp at h
      exact ⟨l.dropLast, l.getLast this, (List.dropLast_concat_getLast this).symm⟩
    have hk : m.length = k := by simpa using h
    have hb := b.toNat_lt
    rw [num_snoc]
    simp only [be]
    rw [show (num m * 256 + b.toNat) / 256 = num m by omega, show (num m * 256 + b.toNat) % 256 = b.toNat by omega, ih m hk, UInt8.ofNat_toNat]
/-- The same bytes as whole numbers, built from the least on. -/
def bi (n : Nat) : Nat → List Int
  | 0 => []
  | s + 1 => ((n / 256 ^ s % 256 : Nat) : Int) :: bi n s
theorem bi_length (n s : Nat) : (bi n s).length = s := by
  induction s with
  | zero => rfl
  | succ s ih => simp only [bi, List.length_cons, ih]
theorem bi_snoc (s : Nat) : ∀ n, bi n (s + 1) = bi (n / 256) s ++ [((n % 256 : Nat) : Int)] := by
  induction s with
  | zero => intro n; simp only [bi, Nat.pow_zero, Nat.div_one, List.nil_append]
  | succ s ih =>
    intro n
    rw [bi, ih n]
    rw [show bi (n / 256) (s + 1) = ((n / 256 / 256 ^ s % 256 : Nat) : Int) :: bi (n / 256) s from rfl]
    rw [Nat.div_div_eq_div_mul, show 256 * 256 ^ s = 256 ^ (s + 1) by rw [Nat.pow_succ, Nat.mul_comm]]
    rfl
theorem bi_be (s : Nat) : ∀ n, bi n s = ints (be n s) := by
  induction s with
  | zero => intro n; rfl
  | succ s ih =>
    intro n
    rw [bi_snoc, ih]
    simp only [be]
    rw [ints_append]
    have : (UInt8.ofNat (n % 256)).toNat = n % 256 := by
      rw [UInt8.toNat_ofNat']; omega
    simp only [ints, List.map_cons, List.map_nil, this]
theorem pow_256 (s : Nat) : 256 ^ s = 2 ^ (8 * s) := by rw [Nat.pow_mul]
theorem shr_pow (m i : Nat) (hi : i ≤ 8) : shr .i64 (m : Int) (8 * (i : Int)) = ((m / 256 ^ i : Nat) : Int) := by
  unfold shr
  rw [show (8 * (i : Int)).toNat = 8 * i by omega, show IntKind.i64.bits = 64 from rfl, Nat.min_eq_left (by omega), pow_256, Int.natCast_ediv, Int.natCast_pow]
  rfl
theorem or_join (x b : Nat) (hx : x < 36028797018963968) (hb : b < 256) : Go.bits .or .i64 (wrap64 ((x : Int) * 256)) (wrap64 (b : Int)) = ((x * 256 + b : Nat) : Int) := by
  have w1 : wrap64 ((x : Int) * 256) = ((x * 256 : Nat) : Int) := by unfold wrap64; omega
  have w2 : wrap64 (b : Int) = (b : Int) := by unfold wrap64; omega
  rw [w1, w2]
  have := bits_join .i64 63 (by decide) (fun n h0 h1 => by rw [IntKind.wrap_i64]; omega) 8 ((x * 256 : Nat) : Int) (b : Int) (by omega) (by omega) (by omega) (by omega) (by omega) (by omega)
  rw [this]
  omega
theorem be_cons (n s : Nat) : be n (s + 1) = UInt8.ofNat (n / 256 ^ s % 256) :: be n s := by
  have h := bi_be (s + 1) n
  have h2 := congrArg Lib.bytesOf h
  rw [bytesOf_ints, bi, bi_be] at h2
  rw [← h2]
  show UInt8.ofNat ((n / 256 ^ s % 256 : Nat) : Int).toNat :: Lib.bytesOf (ints (be n s)) = _
  rw [bytesOf_ints, Int.toNat_natCast]
theorem split_mod (a s : Nat) : a % 256 ^ (s + 1) = (a / 256 ^ s % 256) * 256 ^ s + a % 256 ^ s := by
  rw [Nat.pow_succ, Nat.mod_mul, Nat.mul_comm, Nat.add_comm]

end Go.Proofs.YtfaabbimbjegmaaDoor.BB

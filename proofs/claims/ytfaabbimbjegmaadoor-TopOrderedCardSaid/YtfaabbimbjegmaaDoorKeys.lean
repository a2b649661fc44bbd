/-
  Layer 1: values, their encoding, what Put answers.
-/
import Derived.Test.YtfaabbimbjegmaaDoorByteBase
import Derived.Test.YtfaabbimbjegmaaDoorPAll
set_option linter.unusedVariables false
set_option linter.unusedSimpArgs false
namespace Go.Proofs.YtfaabbimbjegmaaDoor.KB
open Go.RowKit Go.Proofs.YtfaabbimbjegmaaDoor.PA Go.Proofs.YtfaabbimbjegmaaDoor.BB Go.Proofs.YtfaabbimbjegmaaDoorW.PrintWords Go.Proofs.YtfaabbimbjegmaaDoorW.PrintLast Go.Proofs.YtfaabbimbjegmaaDoorW.PrintMore

/-- A value: text, number, is it a text. -/
structure PV where
  t : List UInt8
  n : Int
  b : Bool
  deriving DecidableEq

def p32 (v : S32) : PV := ⟨v.f0.data.toList, v.f1, v.f2⟩
/-- May it be a value: the error's number, 0 for none. -/
def okV (v : PV) : Int := if v.b = true ∧ 20 < v.t.length then 6 else if (v.b = true ∧ v.n ≠ 0) ∨ (v.b = false ∧ v.t ≠ []) ∨ v.n < -1099511627776 ∨ 1099511627776 < v.n then 1 else 0

def esc : List UInt8 → List UInt8
  | [] => []
  | x :: l => if x = 0 then 0 :: 255 :: esc l else x :: esc l
def enc (v : PV) : List UInt8 := if v.b = true then 32 :: (esc v.t ++ [0, 1]) else 16 :: be (v.n + 1099511627776).toNat 6

def putP : List PV → List UInt8 × Int
  | [] => ([], 0)
  | v :: l => if okV v = 0 then (if (putP l).2 = 0 then (enc v ++ (putP l).1, 0) else ([], (putP l).2)) else ([], okV v)

theorem esc_append (l m : List UInt8) : esc (l ++ m) = esc l ++ esc m := by
  induction l with
  | nil => rfl
  | cons x l ih => simp only [List.cons_append, esc, ih]; split <;> rfl
theorem esc_length (l : List UInt8) : (esc l).length ≤ 2 * l.length := by
  induction l with
  | nil => simp [esc]
  | cons x l ih => simp only [esc]; split <;> simp only [List.length_cons] <;> omega

theorem right_f (v : S32) : Ev (fun k => keys_Value_right.f k v.f0 v.f1 v.f2) (okV (p32 v)) := by
  refine ⟨3, fun k hk => ?_⟩
  obtain ⟨K, rfl⟩ : ∃ K, k = K + 3 := ⟨k - 3, by omega⟩
  have hs : (p32 v).t.length = v.f0.size := sizeL v.f0
  have hb : (p32 v).b = v.f2 := rfl
  have hn : (p32 v).n = v.f1 := rfl
  have ht : ((p32 v).t ≠ []) ↔ (v.f0.toList ≠ []) := by rw [Lib.toList_data]; rfl
  show keys_Value_right.f (K + 3) v.f0 v.f1 v.f2 = _
  unfold okV
  rw [hs, hb, hn]
  simp only [ht]
  unfold keys_Value_right.f
  cases v.f2 with
  | true =>
    simp only [keys_Value_right.j0, keys_Value_right.j1, keys_Value_right.j2]
    by_cases c1 : 20 < v.f0.size
    · simp [c1, show (v.f0.size : Int) > 20 by omega]
    · by_cases c2 : v.f1 = 0
      · simp [c1, c2, show ¬ (v.f0.size : Int) > 20 by omega]
      · simp [c1, c2, show ¬ (v.f0.size : Int) > 20 by omega]
  | false =>
    simp only [keys_Value_right.j0, keys_Value_right.j1, keys_Value_right.j2]
    by_cases c1 : v.f0.toList = []
    · by_cases c2 : v.f1 < -1099511627776
      · simp [c1, c2]
      · by_cases c3 : v.f1 > 1099511627776
        · simp [c1, c2, c3]
        · simp [c1, c2, c3]
    · simp [c1]

theorem okV_zero {v : PV} (h : okV v = 0) : -1099511627776 ≤ v.n ∧ v.n ≤ 1099511627776 ∧ (v.b = true → v.t.length ≤ 20 ∧ v.n = 0) ∧ (v.b = false → v.t = []) := by
  unfold okV at h
  split at h
  · cases h
  · split at h
    · cases h
    · rename_i h1 h2
      have a : ¬ (v.b = true ∧ v.n ≠ 0) := fun h => h2 (.inl h)
      have b : ¬ (v.b = false ∧ v.t ≠ []) := fun h => h2 (.inr (.inl h))
      have c : ¬ v.n < -1099511627776 := fun h => h2 (.inr (.inr (.inl h)))
      have d : ¬ 1099511627776 < v.n := fun h => h2 (.inr (.inr (.inr h)))
      refine ⟨by omega, by omega, fun hb => ⟨?_, ?_⟩, fun hb => ?_⟩
      · have : ¬ 20 < v.t.length := fun h => h1 ⟨hb, h⟩
        omega
      · exact Decidable.byContradiction fun h => a ⟨hb, h⟩
      · exact Decidable.byContradiction fun h => b ⟨hb, h⟩

theorem enc_length {v : PV} (h : okV v = 0) : (enc v).length ≤ 43 := by
  obtain ⟨_, _, h1, _⟩ := okV_zero h
  unfold enc
  split
  · rename_i hb
    have := esc_length v.t
    have := (h1 hb).1
    simp only [List.length_cons, List.length_append, List.length_nil]
    omega
  · simp only [List.length_cons, be_length]
    omega

/-- The text's bytes, put one by one. -/
theorem put_text (x10 : List S32) (i : Int) (v : S32) (r : ByteArray × Int) (acc : List UInt8) (ha : acc.length + 2 * v.f0.size + 2 < 140737488355000) (hv : v.f0.size < 1000)
    (hr : Ev (fun k => keys_Put.l0 k (ints (acc ++ esc v.f0.data.toList ++ [0, 1])) x10 (x10.length : Int) (wrap64 (i + 1))) r) (d : Nat) :
    ∀ j, j + d = v.f0.size → Ev (fun k => keys_Put.l2 k (ints (acc ++ esc (v.f0.data.toList.take j))) x10 (x10.length : Int) i (v.f0.size : Int) (j : Int) v.f0 v.f1 v.f2) r := by
  induction d with
  | zero =>
    intro j hj
    obtain rfl : j = v.f0.size := by omega
    have hl := esc_length v.f0.data.toList
    rw [sizeL] at hl
    rw [List.take_of_length_le (by rw [sizeL]; omega)]
    refine Ev.step (fun k => ?_) hr
    simp only [keys_Put.l2]
    rw [if_neg (by omega)]
    simp only [Option.bind_some]
    rw [if_pos (by simp only [ints_length, List.length_append, List.length_cons, List.length_nil]; omega)]
    rw [ints_append (acc ++ esc v.f0.data.toList)]
    rfl
  | succ d ih =>
    intro j hj
    have hlt : j < v.f0.size := by omega
    have e := ih (j + 1) (by omega)
    have hl := esc_length (v.f0.data.toList.take j)
    have hl2 : (v.f0.data.toList.take j).length ≤ j := List.length_take_le _ _
    have hla : (ints (acc ++ esc (v.f0.data.toList.take j))).length = acc.length + (esc (v.f0.data.toList.take j)).length := by rw [ints_length, List.length_append]
    rw [take_snoc v.f0 j hlt, esc_append] at e
    refine Ev.step (fun k => ?_) e
    simp only [keys_Put.l2]
    rw [if_pos (by omega), if_pos (by omega), if_pos (by omega), if_pos (by omega), btL v.f0 j hlt, wrap_succ (by omega)]
    simp only [Option.bind_some]
    by_cases h0 : v.f0[j] = 0
    · have h1 : ((v.f0[j].toNat : Nat) : Int) = 0 := by rw [h0]; rfl
      have h2 : esc [v.f0[j]] = [0, 255] := by rw [h0]; rfl
      rw [h1, if_pos rfl, if_pos (by simp only [List.length_append, List.length_cons, List.length_nil]; omega), h2, ← List.append_assoc, ints_append (acc ++ esc (v.f0.data.toList.take j)), List.append_assoc]
      rfl
    · have h1 : ¬ ((v.f0[j].toNat : Nat) : Int) = 0 := by
        intro h
        apply h0
        apply UInt8.toNat_inj.mp
        show v.f0[j].toNat = 0
        omega
      have h2 : esc [v.f0[j]] = [v.f0[j]] := by simp only [esc, if_neg h0]
      rw [if_neg h1, h2, ← List.append_assoc, ints_append (acc ++ esc (v.f0.data.toList.take j))]
      rfl

/-- The number's bytes, put one by one. -/
theorem put_number (x10 : List S32) (i : Int) (v : S32) (m : Nat) (hm : v.f1 + 1099511627776 = (m : Int)) (hm2 : m < 9223372036854775808) (r : ByteArray × Int) (acc : List UInt8) (ha : acc.length < 140737488355000)
    (hr : Ev (fun k => keys_Put.l0 k (ints (acc ++ be m 6)) x10 (x10.length : Int) (wrap64 (i + 1))) r) (d : Nat) :
    ∀ pre, d ≤ 6 → pre.length + d = 6 → pre ++ be m d = be m 6 → Ev (fun k => keys_Put.l1 k (ints (acc ++ pre)) ((d : Int) - 1) x10 (x10.length : Int) i v.f0 v.f1 v.f2) r := by
  induction d with
  | zero =>
    intro pre _ hl hp
    have e : pre = be m 6 := by rw [← hp]; simp [be]
    rw [e]
    refine Ev.step (fun k => ?_) hr
    simp only [keys_Put.l1]
    rw [if_neg (by omega)]
  | succ d ih =>
    intro pre hd hl hp
    have e := ih (pre ++ [UInt8.ofNat (m / 256 ^ d % 256)]) (by omega) (by simp only [List.length_append, List.length_cons, List.length_nil]; omega) (by rw [List.append_assoc, ← hp, be_cons]; rfl)
    refine Ev.step (fun k => ?_) e
    simp only [keys_Put.l1]
    have w1 : wrap64 (v.f1 + 1099511627776) = (m : Int) := by rw [hm]; unfold wrap64; omega
    have w2 : wrap64 (8 * (((d + 1 : Nat) : Int) - 1)) = 8 * (d : Int) := by unfold wrap64; omega
    have w3 : wrap64 (((d + 1 : Nat) : Int) - 1 - 1) = (d : Int) - 1 := by unfold wrap64; omega
    rw [w1, w2, w3, if_pos (by omega), if_pos (by omega), if_pos (by rw [ints_length, List.length_append]; omega), shr_pow m d (by omega)]
    rw [← List.append_assoc, ints_append (acc ++ pre)]
    have : ((m / 256 ^ d : Nat) : Int) % 256 = (((UInt8.ofNat (m / 256 ^ d % 256)).toNat : Nat) : Int) := by
      have h := Nat.mod_lt (m / 256 ^ d) (show 0 < 256 by decide)
      rw [UInt8.toNat_ofNat', Nat.mod_eq_of_lt (show m / 256 ^ d % 256 < 2 ^ 8 from h)]
      omega
    rw [this]
    rfl

theorem rd32 (l : List S32) (i : Nat) (h : i < l.length) : rd_T32 l (i : Int) = l[i] := by
  unfold rd_T32
  rw [Int.toNat_natCast, List.getD_eq_getElem?_getD, List.getElem?_eq_getElem h]; rfl
theorem str_ext (l m : List UInt8) (h : l = m) : strOfNums (ints l) = strOfNums (ints m) := by rw [h]

/-- A text of such bytes. -/
def B (l : List UInt8) : ByteArray := strOfNums (ints l)
theorem B_L (l : List UInt8) : (B l).data.toList = l := str_ints l
theorem B_eq (a : ByteArray) : B a.data.toList = a := ext (B_L _)
theorem B_size (l : List UInt8) : (B l).size = l.length := by rw [← sizeL, B_L]

theorem put_l0 (l : List S32) (hl : l.length < 1000000) (d : Nat) : ∀ i acc, i + d = l.length → acc.length ≤ 43 * i →
    Ev (fun k => keys_Put.l0 k (ints acc) l (l.length : Int) (i : Int)) (if (putP ((l.drop i).map p32)).2 = 0 then (B (acc ++ (putP ((l.drop i).map p32)).1), 0) else (B [], (putP ((l.drop i).map p32)).2)) := by
  induction d with
  | zero =>
    intro i acc hi ha
    rw [List.drop_of_length_le (by omega)]
    refine ⟨1, fun k hk => ?_⟩
    obtain ⟨K, rfl⟩ : ∃ K, k = K + 1 := ⟨k - 1, by omega⟩
    simp only [keys_Put.l0]
    rw [if_neg (by omega)]
    simp only [List.map_nil, putP, List.append_nil, if_true]
    rfl
  | succ d ih =>
    intro i acc hi ha
    have hlt : i < l.length := by omega
    have hd : l.drop i = l[i] :: l.drop (i + 1) := List.drop_eq_getElem_cons hlt
    rw [hd, List.map_cons]
    have hw : wrap64 ((i : Int) + 1) = ((i + 1 : Nat) : Int) := wrap_succ (by omega)
    have hright := right_f l[i]
    by_cases hok : okV (p32 l[i]) = 0
    · obtain ⟨n1, n2, ht, hn⟩ := okV_zero hok
      have hlen := enc_length hok
      have e := ih (i + 1) (acc ++ enc (p32 l[i])) (by omega) (by rw [List.length_append]; omega)
      have hres : (if (putP (p32 l[i] :: (l.drop (i + 1)).map p32)).2 = 0 then (B (acc ++ (putP (p32 l[i] :: (l.drop (i + 1)).map p32)).1), (0 : Int)) else (B [], (putP (p32 l[i] :: (l.drop (i + 1)).map p32)).2)) =
          (if (putP ((l.drop (i + 1)).map p32)).2 = 0 then (B (acc ++ enc (p32 l[i]) ++ (putP ((l.drop (i + 1)).map p32)).1), 0) else (B [], (putP ((l.drop (i + 1)).map p32)).2)) := by
        generalize (l.drop (i + 1)).map p32 = Q at *
        by_cases h : (putP Q).2 = 0
        · simp [putP, hok, h, List.append_assoc]
        · simp [putP, hok, h]
      rw [hres]
      generalize (if (putP ((l.drop (i + 1)).map p32)).2 = 0 then (B (acc ++ enc (p32 l[i]) ++ (putP ((l.drop (i + 1)).map p32)).1), (0 : Int)) else (B [], (putP ((l.drop (i + 1)).map p32)).2)) = r at *
      have hnext : Ev (fun k => if (l[i]).f2 = true then keys_Put.l2 k (ints acc ++ [32]) l (l.length : Int) (i : Int) ((l[i].f0).size : Int) 0 l[i].f0 l[i].f1 l[i].f2 else keys_Put.l1 k (ints acc ++ [16]) 5 l (l.length : Int) (i : Int) l[i].f0 l[i].f1 l[i].f2) r := by
        by_cases hb : l[i].f2 = true
        · have hsz := (ht hb).1
          have hsz2 : l[i].f0.size ≤ 20 := by rw [← sizeL]; exact hsz
          have q := put_text l (i : Int) l[i] r (acc ++ [32]) (by simp only [List.length_append, List.length_cons, List.length_nil]; omega) (by omega) (by
            rw [hw]
            have : enc (p32 l[i]) = [32] ++ (esc l[i].f0.data.toList ++ [0, 1]) := by unfold enc; rw [if_pos (show (p32 l[i]).b = true from hb)]; rfl
            rw [this] at e
            simp only [List.append_assoc] at e ⊢
            exact e) l[i].f0.size 0 (by omega)
          rw [List.take_zero, show esc [] = [] from rfl, List.append_nil, ints_append] at q
          obtain ⟨K, hK⟩ := q
          exact ⟨K, fun k hk => by simp only; rw [if_pos hb]; exact hK k hk⟩
        · obtain ⟨m, hm⟩ := Int.eq_ofNat_of_zero_le (show 0 ≤ l[i].f1 + 1099511627776 by have : (p32 l[i]).n = l[i].f1 := rfl; omega)
          have hm2 : m < 9223372036854775808 := by have : (p32 l[i]).n = l[i].f1 := rfl; omega
          have q := put_number l (i : Int) l[i] m hm hm2 r (acc ++ [16]) (by simp only [List.length_append, List.length_cons, List.length_nil]; omega) (by
            rw [hw]
            have : enc (p32 l[i]) = [16] ++ be m 6 := by
              unfold enc
              rw [if_neg (show ¬ (p32 l[i]).b = true from hb), show (p32 l[i]).n = l[i].f1 from rfl, hm]; rfl
            rw [this, ← List.append_assoc] at e
            exact e) 6 [] (by omega) (by simp) (by simp)
          rw [List.append_nil, ints_append] at q
          obtain ⟨K, hK⟩ := q
          exact ⟨K, fun k hk => by simp only; rw [if_neg hb]; exact hK k hk⟩
      obtain ⟨K1, h1⟩ := hright
      obtain ⟨K2, h2⟩ := hnext
      refine ⟨K1 + K2 + 1, fun k hk => ?_⟩
      obtain ⟨K, rfl⟩ : ∃ K, k = K + 1 := ⟨k - 1, by omega⟩
      have g1 := h1 K (by omega)
      have g2 := h2 K (by omega)
      simp only at g1 g2
      simp only [keys_Put.l0]
      rw [if_pos (by omega), if_pos (by omega), if_pos (by omega), rd32 l i hlt, g1]
      simp only [Option.bind_some]
      have hla : (ints acc).length < 140737488355328 := by rw [ints_length]; omega
      rw [if_pos hok]
      simp only [if_pos hla]
      exact g2
    · obtain ⟨K1, h1⟩ := hright
      refine ⟨K1 + 1, fun k hk => ?_⟩
      obtain ⟨K, rfl⟩ : ∃ K, k = K + 1 := ⟨k - 1, by omega⟩
      have g1 := h1 K (by omega)
      simp only at g1
      simp only [keys_Put.l0]
      rw [if_pos (by omega), if_pos (by omega), if_pos (by omega), rd32 l i hlt, g1]
      simp only [Option.bind_some]
      rw [if_neg hok]
      have hpp : putP (p32 l[i] :: (l.drop (i + 1)).map p32) = ([], okV (p32 l[i])) := by simp only [putP]; rw [if_neg hok]
      simp only [hpp, if_neg hok]
      rfl

/-- What Put answers. -/
def putR (vs : List PV) : ByteArray × Int := (B (putP vs).1, (putP vs).2)
theorem putP_fail {vs : List PV} (h : (putP vs).2 ≠ 0) : (putP vs).1 = [] := by
  cases vs with
  | nil => exact absurd rfl h
  | cons v vs =>
    simp only [putP] at h ⊢
    split
    · rename_i h1
      rw [if_pos h1] at h
      split
      · rename_i h2
        rw [if_pos h2] at h
        exact absurd rfl h
      · rfl
    · rfl
theorem put_f (l : List S32) (hl : l.length < 1000000) : Ev (fun k => keys_Put.f k l) (putR (l.map p32)) := by
  have h := put_l0 l hl l.length 0 [] (by omega) (by simp)
  rw [List.drop_zero] at h
  have e : (if (putP (l.map p32)).2 = 0 then (B ([] ++ (putP (l.map p32)).1), (0 : Int)) else (B [], (putP (l.map p32)).2)) = putR (l.map p32) := by
    unfold putR
    by_cases h : (putP (l.map p32)).2 = 0
    · rw [if_pos h, h]; rfl
    · rw [if_neg h, putP_fail h]
  rw [e] at h
  exact h

theorem B_snoc (acc : List UInt8) (a : ByteArray) (p : Nat) (hp : p < a.size) : B acc ++ a.extract p (p + 1) = B (acc ++ [a[p]]) := by
  apply ext
  rw [dataAppend, B_L, B_L, extract_one a p hp]
theorem B_zero (acc : List UInt8) : B acc ++ (⟨#[0]⟩ : ByteArray) = B (acc ++ [0]) := by
  apply ext
  rw [dataAppend, B_L, B_L]
theorem B_nil : B [] = ⟨#[]⟩ := by
  apply ext
  rw [B_L]



/-- A text: what it is, what stands behind it, the error's number. -/
def txt (acc : List UInt8) : List UInt8 → List UInt8 × List UInt8 × Int
  | [] => ([], [], 3)
  | [x] => ([], [], 3)
  | x :: y :: m => if x ≠ 0 then txt (acc ++ [x]) (y :: m) else if y = 255 then txt (acc ++ [0]) m else if y = 1 then (if 20 < acc.length then ([], [], 6) else (acc, m, 0)) else ([], [], 2)

def none0 : PV := ⟨[], 0, false⟩
/-- A value: the error's number, what it is, what stands behind it. -/
def one : List UInt8 → Int × PV × List UInt8
  | [] => (2, none0, [])
  | x :: l =>
    if x = 16 then (if l.length < 6 then (3, none0, []) else if 2199023255552 < num (l.take 6) then (2, none0, []) else (0, ⟨[], (num (l.take 6) : Int) - 1099511627776, false⟩, l.drop 6))
    else if x = 32 then (if (txt [] l).2.2 = 0 then (0, ⟨(txt [] l).1, 0, true⟩, (txt [] l).2.1) else ((txt [] l).2.2, none0, []))
    else (2, none0, [])

def getP : Nat → List UInt8 → List PV × Int
  | 0, _ => ([], 0)
  | n + 1, l => if l = [] then ([], 0) else if (one l).1 = 0 then (if (getP n (one l).2.2).2 = 0 then ((one l).2.1 :: (getP n (one l).2.2).1, 0) else ([], (getP n (one l).2.2).2)) else ([], (one l).1)

theorem txt_esc (t : List UInt8) : ∀ acc rest, txt acc (esc t ++ 0 :: 1 :: rest) = if 20 < (acc ++ t).length then ([], [], 6) else (acc ++ t, rest, 0) := by
  induction t with
  | nil =>
    intro acc rest
    simp only [esc, List.nil_append, List.append_nil, txt]
    rw [if_neg (by decide), if_neg (by decide), if_pos trivial]
  | cons x t ih =>
    intro acc rest
    by_cases h : x = 0
    · subst h
      simp only [esc, if_true, List.cons_append, txt]
      rw [if_neg (by decide), ih]
      simp only [List.append_assoc, List.cons_append, List.nil_append]
    · have hx : esc (x :: t) = x :: esc t := by simp only [esc, if_neg h]
      rw [hx, List.cons_append]
      obtain ⟨y, m, hy⟩ : ∃ y m, esc t ++ 0 :: 1 :: rest = y :: m := by
        cases hE : esc t ++ 0 :: 1 :: rest with
        | nil => simp at hE
        | cons y m => exact ⟨y, m, rfl⟩
      rw [hy]
      simp only [txt]
      rw [if_pos h, ← hy, ih]
      simp only [List.append_assoc, List.cons_append, List.nil_append]

theorem txt_back (n : Nat) : ∀ l acc, l.length ≤ n → (txt acc l).2.2 = 0 → ∃ t, (txt acc l).1 = acc ++ t ∧ l = esc t ++ 0 :: 1 :: (txt acc l).2.1 ∧ (acc ++ t).length ≤ 20 := by
  induction n with
  | zero =>
    intro l acc hl h
    have : l = [] := List.eq_nil_of_length_eq_zero (by omega)
    subst this
    simp [txt] at h
  | succ n ih =>
    intro l acc hl h
    match l, hl, h with
    | [], _, h => simp [txt] at h
    | [x], _, h => simp [txt] at h
    | x :: y :: m, hl, h =>
      by_cases hx : x = 0
      · subst hx
        by_cases hy : y = 255
        · subst hy
          have e : txt acc (0 :: 255 :: m) = txt (acc ++ [0]) m := by simp only [txt]; rw [if_neg (by decide), if_pos trivial]
          rw [e] at h ⊢
          obtain ⟨t, h1, h2, h3⟩ := ih m (acc ++ [0]) (by simp only [List.length_cons] at hl; omega) h
          refine ⟨0 :: t, ?_, ?_, ?_⟩
          · rw [h1, List.append_assoc]; rfl
          · conv => lhs; rw [h2]
            simp [esc]
          · simpa using h3
        · by_cases hy1 : y = 1
          · subst hy1
            by_cases h20 : 20 < acc.length
            · have e : txt acc (0 :: 1 :: m) = ([], [], 6) := by simp only [txt]; rw [if_neg (by decide), if_neg (by decide), if_pos trivial, if_pos h20]
              rw [e] at h
              exact absurd h (by decide)
            · have e : txt acc (0 :: 1 :: m) = (acc, m, 0) := by simp only [txt]; rw [if_neg (by decide), if_neg (by decide), if_pos trivial, if_neg h20]
              rw [e]
              exact ⟨[], by simp, by simp [esc], by simp; omega⟩
          · have e : txt acc (0 :: y :: m) = ([], [], 2) := by simp only [txt]; rw [if_neg (by decide), if_neg hy, if_neg hy1]
            rw [e] at h
            exact absurd h (by decide)
      · have e : txt acc (x :: y :: m) = txt (acc ++ [x]) (y :: m) := by simp only [txt]; rw [if_pos hx]
        rw [e] at h ⊢
        obtain ⟨t, h1, h2, h3⟩ := ih (y :: m) (acc ++ [x]) (by simp only [List.length_cons] at hl ⊢; omega) h
        refine ⟨x :: t, ?_, ?_, ?_⟩
        · rw [h1, List.append_assoc]; rfl
        · conv => lhs; rw [h2]
          simp [esc, hx]
        · simpa using h3

/-- What is read was put, and back. -/
theorem one_enc {v : PV} (h : okV v = 0) (rest : List UInt8) : one (enc v ++ rest) = (0, v, rest) := by
  obtain ⟨h1, h2, h3, h4⟩ := okV_zero h
  obtain ⟨t, n, b⟩ := v
  unfold enc
  cases b with
  | true =>
    obtain ⟨ht, hn⟩ := h3 rfl
    simp only at ht hn
    subst hn
    simp only [if_true, List.cons_append]
    simp only [one]
    rw [if_neg (by decide), if_pos trivial, List.append_assoc]
    have e : ([0, 1] ++ rest : List UInt8) = 0 :: 1 :: rest := rfl
    have h20 : ¬ 20 < t.length := by omega
    rw [e, txt_esc, List.nil_append]
    simp [h20]
  | false =>
    have ht := h4 rfl
    simp only at ht h1 h2
    subst ht
    have hlt : (n + 1099511627776).toNat < 256 ^ 6 := by
      have : (256 : Nat) ^ 6 = 281474976710656 := by decide
      omega
    simp only [Bool.false_eq_true, if_false, List.cons_append]
    simp only [one]
    have hlen := be_length 6 (n + 1099511627776).toNat
    rw [if_pos trivial, if_neg (by rw [List.length_append]; omega), List.take_left' hlen, List.drop_left' hlen, num_be _ _ hlt, if_neg (by omega)]
    congr 3
    omega

theorem one_back {l : List UInt8} (h : (one l).1 = 0) : okV (one l).2.1 = 0 ∧ l = enc (one l).2.1 ++ (one l).2.2 := by
  match l, h with
  | [], h => simp [one] at h
  | x :: l, h =>
    by_cases h16 : x = 16
    · subst h16
      by_cases hl : l.length < 6
      · have e : one (16 :: l) = (3, none0, []) := by simp only [one]; rw [if_pos trivial, if_pos hl]
        rw [e] at h
        exact absurd h (by decide)
      · by_cases hn : 2199023255552 < num (l.take 6)
        · have e : one (16 :: l) = (2, none0, []) := by simp only [one]; rw [if_pos trivial, if_neg hl, if_pos hn]
          rw [e] at h
          exact absurd h (by decide)
        · have e : one (16 :: l) = (0, ⟨[], (num (l.take 6) : Int) - 1099511627776, false⟩, l.drop 6) := by simp only [one]; rw [if_pos trivial, if_neg hl, if_neg hn]
          rw [e]
          refine ⟨?_, ?_⟩
          · unfold okV
            simp only [Bool.false_eq_true, false_and, if_false, ne_eq, not_true, and_false, false_or]
            rw [if_neg (by omega)]
          · unfold enc
            simp only [Bool.false_eq_true, if_false, List.cons_append]
            have hlen : (l.take 6).length = 6 := by rw [List.length_take]; omega
            have hb := be_num (l.take 6)
            rw [hlen] at hb
            rw [show ((num (l.take 6) : Int) - 1099511627776 + 1099511627776).toNat = num (l.take 6) by omega, hb, List.take_append_drop]
    · by_cases h32 : x = 32
      · subst h32
        by_cases ht : (txt [] l).2.2 = 0
        · have e : one (32 :: l) = (0, ⟨(txt [] l).1, 0, true⟩, (txt [] l).2.1) := by simp only [one]; rw [if_neg (by decide), if_pos trivial, if_pos ht]
          rw [e]
          obtain ⟨t, h1, h2, h3⟩ := txt_back l.length l [] (Nat.le_refl _) ht
          rw [List.nil_append] at h1 h3
          refine ⟨?_, ?_⟩
          · rw [h1]
            unfold okV
            simp only [true_and, ne_eq, not_true, and_false, Bool.true_eq_false, false_and, false_or]
            rw [if_neg (by omega), if_neg (by omega)]
          · unfold enc
            simp only [if_true, List.cons_append]
            rw [h1]
            conv => lhs; rw [h2]
            simp
        · have e : one (32 :: l) = ((txt [] l).2.2, none0, []) := by simp only [one]; rw [if_neg (by decide), if_pos trivial, if_neg ht]
          rw [e] at h
          exact absurd h ht
      · have e : one (x :: l) = (2, none0, []) := by simp only [one]; rw [if_neg h16, if_neg h32]
        rw [e] at h
        exact absurd h (by decide)

theorem enc_ne (v : PV) (rest : List UInt8) : enc v ++ rest ≠ [] := by unfold enc; split <;> simp
theorem enc_pos (v : PV) : 1 ≤ (enc v).length := by unfold enc; split <;> simp

theorem get_put (vs : List PV) : ∀ n, (putP vs).1.length < n → (putP vs).2 = 0 → getP n (putP vs).1 = (vs, 0) := by
  induction vs with
  | nil =>
    intro n hn h
    match n with
    | n + 1 => rfl
  | cons v vs ih =>
    intro n hn h
    match n, hn with
    | n + 1, hn =>
      by_cases hok : okV v = 0
      · by_cases h2 : (putP vs).2 = 0
        · have e : putP (v :: vs) = (enc v ++ (putP vs).1, 0) := by simp only [putP]; rw [if_pos hok, if_pos h2]
          rw [e] at hn h ⊢
          simp only at hn ⊢
          have hp := enc_pos v
          rw [List.length_append] at hn
          simp only [getP]
          rw [if_neg (enc_ne _ _), one_enc hok]
          simp only
          rw [ih n (by omega) h2]
          simp
        · have e : putP (v :: vs) = ([], (putP vs).2) := by simp only [putP]; rw [if_pos hok, if_neg h2]
          rw [e] at h
          exact absurd h h2
      · have e : putP (v :: vs) = ([], okV v) := by simp only [putP]; rw [if_neg hok]
        rw [e] at h
        exact absurd h hok

theorem put_get (n : Nat) : ∀ l, l.length < n → (getP n l).2 = 0 → putP (getP n l).1 = (l, 0) := by
  induction n with
  | zero => intro l hl; omega
  | succ n ih =>
    intro l hl h
    by_cases hnil : l = []
    · subst hnil; rfl
    · by_cases h1 : (one l).1 = 0
      · obtain ⟨hok, he⟩ := one_back h1
        have hp := enc_pos (one l).2.1
        have hlen : (one l).2.2.length < n := by
          have := congrArg List.length he
          rw [List.length_append] at this
          omega
        by_cases h2 : (getP n (one l).2.2).2 = 0
        · have e : getP (n + 1) l = ((one l).2.1 :: (getP n (one l).2.2).1, 0) := by simp only [getP]; rw [if_neg hnil, if_pos h1, if_pos h2]
          rw [e]
          simp only
          have hi := ih (one l).2.2 hlen h2
          simp only [putP]
          rw [if_pos hok, hi]
          simp only [if_true]
          rw [← he]
        · have e : getP (n + 1) l = ([], (getP n (one l).2.2).2) := by simp only [getP]; rw [if_neg hnil, if_pos h1, if_neg h2]
          rw [e] at h
          exact absurd h h2
      · have e : getP (n + 1) l = ([], (one l).1) := by simp only [getP]; rw [if_neg hnil, if_neg h1]
        rw [e] at h
        exact absurd h h1


end Go.Proofs.YtfaabbimbjegmaaDoor.KB

/-
  Layer 1: reading keys: what Get answers as a plain function, that it undoes Put, and that the printed functions compute just that.
-/
import Derived.Test.YtojelhacelfjkaaKeysBase
set_option linter.unusedVariables false
namespace Go.Proofs.Ytojelhacelfjkaa.KB
open Go.RowKit Go.Proofs.Ytojelhacelfjkaa.PA Go.Proofs.Ytojelhacelfjkaa.BB Go.Proofs.YtojelhacelfjkaaW.PrintWords Go.Proofs.YtojelhacelfjkaaW.PrintLast Go.Proofs.YtojelhacelfjkaaW.PrintMore

/-- A text: what it is, what stands behind it, the error's number. -/
def txt (acc : List UInt8) : List UInt8 → List UInt8 × List UInt8 × Int
  | [] => ([], [], 3)
  | [x] => ([], [], 3)
  | x :: y :: m => if x ≠ 0 then txt (acc ++ [x]) (y :: m) else if y = 255 then txt (acc ++ [0]) m else if y = 1 then (if 20 < acc.length then ([], [], 6) else (acc, m, 0)) else ([], [], 2)

def none0 : PV := ⟨[], 0, false⟩
/-- A value: the error's number, what it is, what stands behind it. -/
def one : List UInt8 → Int × PV × List UInt8
  | [] => (2, none0, [])
  | x :: l =>
    if x = 16 then (if l.length < 6 then (3, none0, []) else if 2199023255552 < num (l.take 6) then (2, none0, []) else (0, ⟨[], (num (l.take 6) : Int) - 1099511627776, false⟩, l.drop 6))
    else if x = 32 then (if (txt [] l).2.2 = 0 then (0, ⟨(txt [] l).1, 0, true⟩, (txt [] l).2.1) else ((txt [] l).2.2, none0, []))
    else (2, none0, [])

def getP : Nat → List UInt8 → List PV × Int
  | 0, _ => ([], 0)
  | n + 1, l => if l = [] then ([], 0) else if (one l).1 = 0 then (if (getP n (one l).2.2).2 = 0 then ((one l).2.1 :: (getP n (one l).2.2).1, 0) else ([], (getP n (one l).2.2).2)) else ([], (one l).1)

theorem txt_esc (t : List UInt8) : ∀ acc rest, txt acc (esc t ++ 0 :: 1 :: rest) = if 20 < (acc ++ t).length then ([], [], 6) else (acc ++ t, rest, 0) := by
  induction t with
  | nil =>
    intro acc rest
    simp only [esc, List.nil_append, List.append_nil, txt]
    rw [if_neg (by decide), if_neg (by decide), if_pos trivial]
  | cons x t ih =>
    intro acc rest
    by_cases h : x = 0
    · subst h
      simp only [esc, if_true, List.cons_append, txt]
      rw [if_neg (by decide), ih]
      simp only [List.append_assoc, List.cons_append, List.nil_append]
    · have hx : esc (x :: t) = x :: esc t := by simp only [esc, if_neg h]
      rw [hx, List.cons_append]
      obtain ⟨y, m, hy⟩ : ∃ y m, esc t ++ 0 :: 1 :: rest = y :: m := by
        cases hE : esc t ++ 0 :: 1 :: rest with
        | nil => simp at hE
        | cons y m => exact ⟨y, m, rfl⟩
      rw [hy]
      simp only [txt]
      rw [if_pos h, ← hy, ih]
      simp only [List.append_assoc, List.cons_append, List.nil_append]

theorem txt_back (n : Nat) : ∀ l acc, l.length ≤ n → (txt acc l).2.2 = 0 → ∃ t, (txt acc l).1 = acc ++ t ∧ l = esc t ++ 0 :: 1 :: (txt acc l).2.1 ∧ (acc ++ t).length ≤ 20 := by
  induction n with
  | zero =>
    intro l acc hl h
    have : l = [] := List.eq_nil_of_length_eq_zero (by omega)
    subst this
    simp [txt] at h
  | succ n ih =>
    intro l acc hl h
    match l, hl, h with
    | [], _, h => simp [txt] at h
    | [x], _, h => simp [txt] at h
    | x :: y :: m, hl, h =>
      by_cases hx : x = 0
      · subst hx
        by_cases hy : y = 255
        · subst hy
          have e : txt acc (0 :: 255 :: m) = txt (acc ++ [0]) m := by simp only [txt]; rw [if_neg (by decide), if_pos trivial]
          rw [e] at h ⊢
          obtain ⟨t, h1, h2, h3⟩ := ih m (acc ++ [0]) (by simp only [List.length_cons] at hl; omega) h
          refine ⟨0 :: t, ?_, ?_, ?_⟩
          · rw [h1, List.append_assoc]; rfl
          · conv => lhs; rw [h2]
            simp [esc]
          · simpa using h3
        · by_cases hy1 : y = 1
          · subst hy1
            by_cases h20 : 20 < acc.length
            · have e : txt acc (0 :: 1 :: m) = ([], [], 6) := by simp only [txt]; rw [if_neg (by decide), if_neg (by decide), if_pos trivial, if_pos h20]
              rw [e] at h
              exact absurd h (by decide)
            · have e : txt acc (0 :: 1 :: m) = (acc, m, 0) := by simp only [txt]; rw [if_neg (by decide), if_neg (by decide), if_pos trivial, if_neg h20]
              rw [e]
              exact ⟨[], by simp, by simp [esc], by simp; omega⟩
          · have e : txt acc (0 :: y :: m) = ([], [], 2) := by simp only [txt]; rw [if_neg (by decide), if_neg hy, if_neg hy1]
            rw [e] at h
            exact absurd h (by decide)
      · have e : txt acc (x :: y :: m) = txt (acc ++ [x]) (y :: m) := by simp only [txt]; rw [if_pos hx]
        rw [e] at h ⊢
        obtain ⟨t, h1, h2, h3⟩ := ih (y :: m) (acc ++ [x]) (by simp only [List.length_cons] at hl ⊢; omega) h
        refine ⟨x :: t, ?_, ?_, ?_⟩
        · rw [h1, List.append_assoc]; rfl
        · conv => lhs; rw [h2]
          simp [esc, hx]
        · simpa using h3

/-- What is read was put, and back. -/
theorem one_enc {v : PV} (h : okV v = 0) (rest : List UInt8) : one (enc v ++ rest) = (0, v, rest) := by
  obtain ⟨h1, h2, h3, h4⟩ := okV_zero h
  obtain ⟨t, n, b⟩ := v
  unfold enc
  cases b with
  | true =>
    obtain ⟨ht, hn⟩ := h3 rfl
    simp only at ht hn
    subst hn
    simp only [if_true, List.cons_append]
    simp only [one]
    rw [if_neg (by decide), if_pos trivial, List.append_assoc]
    have e : ([0, 1] ++ rest : List UInt8) = 0 :: 1 :: rest := rfl
    have h20 : ¬ 20 < t.length := by omega
    rw [e, txt_esc, List.nil_append]
    simp [h20]
  | false =>
    have ht := h4 rfl
    simp only at ht h1 h2
    subst ht
    have hlt : (n + 1099511627776).toNat < 256 ^ 6 := by
      have : (256 : Nat) ^ 6 = 281474976710656 := by decide
      omega
    simp only [Bool.false_eq_true, if_false, List.cons_append]
    simp only [one]
    have hlen := be_length 6 (n + 1099511627776).toNat
    rw [if_pos trivial, if_neg (by rw [List.length_append]; omega), List.take_left' hlen, List.drop_left' hlen, num_be _ _ hlt, if_neg (by omega)]
    congr 3
    omega

theorem one_back {l : List UInt8} (h : (one l).1 = 0) : okV (one l).2.1 = 0 ∧ l = enc (one l).2.1 ++ (one l).2.2 := by
  match l, h with
  | [], h => simp [one] at h
  | x :: l, h =>
    by_cases h16 : x = 16
    · subst h16
      by_cases hl : l.length < 6
      · have e : one (16 :: l) = (3, none0, []) := by simp only [one]; rw [if_pos trivial, if_pos hl]
        rw [e] at h
        exact absurd h (by decide)
      · by_cases hn : 2199023255552 < num (l.take 6)
        · have e : one (16 :: l) = (2, none0, []) := by simp only [one]; rw [if_pos trivial, if_neg hl, if_pos hn]
          rw [e] at h
          exact absurd h (by decide)
        · have e : one (16 :: l) = (0, ⟨[], (num (l.take 6) : Int) - 1099511627776, false⟩, l.drop 6) := by simp only [one]; rw [if_pos trivial, if_neg hl, if_neg hn]
          rw [e]
          refine ⟨?_, ?_⟩
          · unfold okV
            simp only [Bool.false_eq_true, false_and, if_false, ne_eq, not_true, and_false, false_or]
            rw [if_neg (by omega)]
          · unfold enc
            simp only [Bool.false_eq_true, if_false, List.cons_append]
            have hlen : (l.take 6).length = 6 := by rw [List.length_take]; omega
            have hb := be_num (l.take 6)
            rw [hlen] at hb
            rw [show ((num (l.take 6) : Int) - 1099511627776 + 1099511627776).toNat = num (l.take 6) by omega, hb, List.take_append_drop]
    · by_cases h32 : x = 32
      · subst h32
        by_cases ht : (txt [] l).2.2 = 0
        · have e : one (32 :: l) = (0, ⟨(txt [] l).1, 0, true⟩, (txt [] l).2.1) := by simp only [one]; rw [if_neg (by decide), if_pos trivial, if_pos ht]
          rw [e]
          obtain ⟨t, h1, h2, h3⟩ := txt_back l.length l [] (Nat.le_refl _) ht
          rw [List.nil_append] at h1 h3
          refine ⟨?_, ?_⟩
          · rw [h1]
            unfold okV
            simp only [true_and, ne_eq, not_true, and_false, Bool.true_eq_false, false_and, false_or]
            rw [if_neg (by omega), if_neg (by omega)]
          · unfold enc
            simp only [if_true, List.cons_append]
            rw [h1]
            conv => lhs; rw [h2]
            simp
        · have e : one (32 :: l) = ((txt [] l).2.2, none0, []) := by simp only [one]; rw [if_neg (by decide), if_pos trivial, if_neg ht]
          rw [e] at h
          exact absurd h ht
      · have e : one (x :: l) = (2, none0, []) := by simp only [one]; rw [if_neg h16, if_neg h32]
        rw [e] at h
        exact absurd h (by decide)

theorem enc_ne (v : PV) (rest : List UInt8) : enc v ++ rest ≠ [] := by unfold enc; split <;> simp
theorem enc_pos (v : PV) : 1 ≤ (enc v).length := by unfold enc; split <;> simp

theorem get_put (vs : List PV) : ∀ n, (putP vs).1.length < n → (putP vs).2 = 0 → getP n (putP vs).1 = (vs, 0) := by
  induction vs with
  | nil =>
    intro n hn h
    match n with
    | n + 1 => rfl
  | cons v vs ih =>
    intro n hn h
    match n, hn with
    | n + 1, hn =>
      by_cases hok : okV v = 0
      · by_cases h2 : (putP vs).2 = 0
        · have e : putP (v :: vs) = (enc v ++ (putP vs).1, 0) := by simp only [putP]; rw [if_pos hok, if_pos h2]
          rw [e] at hn h ⊢
          simp only at hn ⊢
          have hp := enc_pos v
          rw [List.length_append] at hn
          simp only [getP]
          rw [if_neg (enc_ne _ _), one_enc hok]
          simp only
          rw [ih n (by omega) h2]
          simp
        · have e : putP (v :: vs) = ([], (putP vs).2) := by simp only [putP]; rw [if_pos hok, if_neg h2]
          rw [e] at h
          exact absurd h h2
      · have e : putP (v :: vs) = ([], okV v) := by simp only [putP]; rw [if_neg hok]
        rw [e] at h
        exact absurd h hok

theorem put_get (n : Nat) : ∀ l, l.length < n → (getP n l).2 = 0 → putP (getP n l).1 = (l, 0) := by
  induction n with
  | zero => intro l hl; omega
  | succ n ih =>
    intro l hl h
    by_cases hnil : l = []
    · subst hnil; rfl
    · by_cases h1 : (one l).1 = 0
      · obtain ⟨hok, he⟩ := one_back h1
        have hp := enc_pos (one l).2.1
        have hlen : (one l).2.2.length < n := by
          have := congrArg List.length he
          rw [List.length_append] at this
          omega
        by_cases h2 : (getP n (one l).2.2).2 = 0
        · have e : getP (n + 1) l = ((one l).2.1 :: (getP n (one l).2.2).1, 0) := by simp only [getP]; rw [if_neg hnil, if_pos h1, if_pos h2]
          rw [e]
          simp only
          have hi := ih (one l).2.2 hlen h2
          simp only [putP]
          rw [if_pos hok, hi]
          simp only [if_true]
          rw [← he]
        · have e : getP (n + 1) l = ([], (getP n (one l).2.2).2) := by simp only [getP]; rw [if_neg hnil, if_pos h1, if_neg h2]
          rw [e] at h
          exact absurd h h2
      · have e : getP (n + 1) l = ([], (one l).1) := by simp only [getP]; rw [if_neg hnil, if_neg h1]
        rw [e] at h
        exact absurd h h1

end Go.Proofs.Ytojelhacelfjkaa.KB

/-
  Layer 1: the printed functions that read keys, the program's and the reference's, compute the plain function.
-/
import Derived.Test.YtojelhacelfjkaaKeysGet
import Derived.Test.YtojelhacelfjkaaPAx5s1
set_option linter.unusedVariables false
namespace Go.Proofs.Ytojelhacelfjkaa.KB
open Go.RowKit Go.Proofs.Ytojelhacelfjkaa.PA Go.Proofs.Ytojelhacelfjkaa.BB Go.Proofs.YtojelhacelfjkaaW.PrintWords Go.Proofs.YtojelhacelfjkaaW.PrintLast Go.Proofs.YtojelhacelfjkaaW.PrintMore

def s36 (v : PV) : S36 := ⟨B v.t, v.n, v.b⟩
def s40 (v : PV) : S40 := ⟨B v.t, v.n, v.b⟩
theorem p36_s36 (v : PV) : p36 (s36 v) = v := by unfold p36 s36; simp only [B_L]
theorem p40_s40 (v : PV) : p40 (s40 v) = v := by unfold p40 s40; simp only [B_L]
theorem s36_p36 (v : S36) : s36 (p36 v) = v := by unfold p36 s36; simp only [B_eq]
theorem s40_p40 (v : S40) : s40 (p40 v) = v := by unfold p40 s40; simp only [B_eq]


/-- A number at the beginning. -/
def nres (l : List UInt8) : ByteArray × Int × Bool × Int × Int := if 2199023255552 < num (l.take 6) then (⟨#[]⟩, 0, false, 0, 2) else (⟨#[]⟩, (num (l.take 6) : Int) - 1099511627776, false, 7, 0)

theorem num_take_lt (l : List UInt8) (i : Nat) (hi : i < 7) : num (l.take i) < 36028797018963968 := by
  have h := num_lt (l.take i)
  have h2 : (l.take i).length ≤ 6 := by rw [List.length_take]; omega
  have h3 : 256 ^ (l.take i).length ≤ 256 ^ 6 := Nat.pow_le_pow_right (by decide) h2
  have h4 : (256 : Nat) ^ 6 < 36028797018963968 := by decide
  omega

theorem number_l0 (a : ByteArray) (l : List UInt8) (ha : a.data.toList.drop 1 = l) (h6 : 6 ≤ l.length) (d : Nat) : ∀ i, i + d = 6 →
    Ev (fun k => keys_number.l0 k a ((num (l.take i) : Nat) : Int) ((i + 1 : Nat) : Int)) (nres l) := by
  have hsz : a.size = l.length + 1 := by
    have := congrArg List.length ha
    rw [List.length_drop, sizeL] at this
    omega
  induction d with
  | zero =>
    intro i hi
    obtain rfl : i = 6 := by omega
    refine ⟨1, fun k hk => ?_⟩
    obtain ⟨K, rfl⟩ : ∃ K, k = K + 1 := ⟨k - 1, by omega⟩
    have hn := num_take_lt l 6 (by omega)
    simp only [keys_number.l0]
    rw [if_neg (by omega)]
    unfold nres
    generalize num (l.take 6) = n at *
    by_cases h : 2199023255552 < n
    · rw [if_pos (by omega), if_pos h]
    · rw [if_neg (by omega), if_neg h]
      simp only [keys_Number.f, Option.bind_some]
      rw [show wrap64 ((n : Int) - 1099511627776) = (n : Int) - 1099511627776 by unfold wrap64; omega]
  | succ d ih =>
    intro i hi
    have e := ih (i + 1) (by omega)
    have hlt : i + 1 < a.size := by omega
    have hx := num_take_lt l i (by omega)
    have hil : i < l.length := by omega
    have ht : l.take (i + 1) = l.take i ++ [l[i]] := List.take_succ_eq_append_getElem hil
    have hget : (a[i + 1]'hlt) = l[i] := by
      have h1 : (a.data.toList.drop 1)[i]? = l[i]? := by rw [ha]
      rw [List.getElem?_drop, List.getElem?_eq_getElem hil, Nat.add_comm] at h1
      rw [List.getElem?_eq_getElem (by rw [sizeL]; exact hlt)] at h1
      exact Option.some.inj h1
    rw [ht, num_snoc] at e
    refine Ev.step (fun k => ?_) e
    simp only [keys_number.l0]
    rw [if_pos (by omega), if_pos (by omega), if_pos (by omega), btL a (i + 1) hlt, hget, or_join _ _ hx (UInt8.toNat_lt _), wrap_succ (by omega)]

theorem number_f (a : ByteArray) (l : List UInt8) (ha : a.data.toList.drop 1 = l) (h1 : 1 ≤ a.size) : Ev (fun k => keys_number.f k a) (if l.length < 6 then (⟨#[]⟩, 0, false, 0, 3) else nres l) := by
  have hsz : a.size = l.length + 1 := by
    have := congrArg List.length ha
    rw [List.length_drop, sizeL] at this
    omega
  by_cases h : l.length < 6
  · rw [if_pos h]
    refine ⟨0, fun k _ => ?_⟩
    simp only [keys_number.f]
    rw [if_pos (by omega)]
  · rw [if_neg h]
    have e := number_l0 a l ha (by omega) 6 0 (by omega)
    obtain ⟨K, hK⟩ := e
    refine ⟨K, fun k hk => ?_⟩
    simp only [keys_number.f]
    rw [if_neg (by omega)]
    exact hK k hk

/-- A text at the beginning. -/
def tres (N : Nat) (r : List UInt8 × List UInt8 × Int) : ByteArray × Int × Bool × Int × Int := if r.2.2 = 0 then (B r.1, 0, true, ((N - r.2.1.length : Nat) : Int), 0) else (⟨#[]⟩, 0, false, 0, r.2.2)

theorem drop_facts (a : ByteArray) (i : Nat) (x : UInt8) (l : List UInt8) (h : a.data.toList.drop i = x :: l) : ∃ hi : i < a.size, a[i]'hi = x ∧ a.data.toList.drop (i + 1) = l ∧ a.size = i + 1 + l.length := by
  have hl := congrArg List.length h
  rw [List.length_drop, sizeL, List.length_cons] at hl
  have hi : i < a.size := by omega
  rw [drop_cons a i hi] at h
  injection h with h1 h2
  exact ⟨hi, h1, h2, by omega⟩
theorem drop_nil (a : ByteArray) (i : Nat) (hi : i ≤ a.size) (h : a.data.toList.drop i = []) : i = a.size := by
  have hl := congrArg List.length h
  rw [List.length_drop, sizeL, List.length_nil] at hl
  omega

theorem text_end (a : ByteArray) (acc : List UInt8) : Ev (fun k => keys_text.l0 k a (ints acc) (a.size : Int)) (⟨#[]⟩, 0, false, 0, 3) := by
  refine ⟨1, fun k hk => ?_⟩
  obtain ⟨K, rfl⟩ : ∃ K, k = K + 1 := ⟨k - 1, by omega⟩
  simp only [keys_text.l0]
  rw [if_neg (by omega)]

theorem text_l0 (a : ByteArray) (ha : a.size < 1000000) (n : Nat) : ∀ l acc i, l.length ≤ n → a.data.toList.drop i = l → i ≤ a.size → acc.length ≤ i →
    Ev (fun k => keys_text.l0 k a (ints acc) (i : Int)) (tres a.size (txt acc l)) := by
  induction n with
  | zero =>
    intro l acc i hl hd hi hacc
    have : l = [] := List.eq_nil_of_length_eq_zero (by omega)
    subst this
    have := drop_nil a i hi hd
    subst this
    exact text_end a acc
  | succ n ih =>
    intro l acc i hl hd hi hacc
    match l, hl, hd with
    | [], _, hd =>
      have := drop_nil a i hi hd
      subst this
      exact text_end a acc
    | x :: l', hl, hd =>
      obtain ⟨hlt, hx, hd', hsz⟩ := drop_facts a i x l' hd
      have hbt : bt a (i : Int) = ((x.toNat : Nat) : Int) := by rw [btL a i hlt, hx]
      have si : i < 9223372036854775807 := by omega
      by_cases hx0 : x = 0
      · have hz : ((x.toNat : Nat) : Int) = 0 := by rw [hx0]; rfl
        match l', hl, hd', hsz, hd with
        | [], hl, hd', hsz, hd =>
          refine ⟨1, fun k hk => ?_⟩
          obtain ⟨K, rfl⟩ : ∃ K, k = K + 1 := ⟨k - 1, by omega⟩
          simp only [keys_text.l0]
          rw [if_pos (by omega), if_pos (by omega), hbt, if_pos hz, wrap_succ si, if_pos (by rw [hsz]; rfl)]
          rfl
        | y :: m, hl, hd', hsz, hd =>
          obtain ⟨hlt2, hy, hd2, hsz2⟩ := drop_facts a (i + 1) y m hd'
          have hbt2 : bt a ((i + 1 : Nat) : Int) = ((y.toNat : Nat) : Int) := by rw [btL a (i + 1) hlt2, hy]
          have si1 : i + 1 < 9223372036854775807 := by omega
          by_cases hy255 : y = 255
          · have e : txt acc (x :: y :: m) = txt (acc ++ [0]) m := by simp only [txt]; rw [if_neg (by simp [hx0]), if_pos hy255]
            rw [e]
            have q := ih m (acc ++ [0]) (i + 1 + 1) (by simp only [List.length_cons] at hl; omega) hd2 (by omega) (by rw [List.length_append, List.length_cons, List.length_nil]; omega)
            rw [ints_append] at q
            refine Ev.step (fun k => ?_) q
            simp only [keys_text.l0]
            rw [if_pos (by omega), if_pos (by omega), hbt, if_pos hz, wrap_succ si, if_neg (by omega), if_pos (by omega), if_pos (by omega), hbt2, if_pos (by rw [hy255]; rfl), if_pos (by rw [ints_length]; omega), wrap_succ si1]
            rfl
          · have hyn : ¬ ((y.toNat : Nat) : Int) = 255 := fun h => hy255 (UInt8.toNat_inj.mp (show y.toNat = 255 by omega))
            refine ⟨1, fun k hk => ?_⟩
            obtain ⟨K, rfl⟩ : ∃ K, k = K + 1 := ⟨k - 1, by omega⟩
            simp only [keys_text.l0]
            rw [if_pos (by omega), if_pos (by omega), hbt, if_pos hz, wrap_succ si, if_neg (by omega), if_pos (by omega), if_pos (by omega), hbt2, if_neg hyn]
            by_cases hy1 : y = 1
            · rw [if_pos (by rw [hy1]; rfl), ints_length]
              by_cases h20 : 20 < acc.length
              · have e : txt acc (x :: y :: m) = ([], [], 6) := by simp only [txt]; rw [if_neg (by simp [hx0]), if_neg hy255, if_pos hy1, if_pos h20]
                rw [e, if_pos (by omega)]
                rfl
              · have e : txt acc (x :: y :: m) = (acc, m, 0) := by simp only [txt]; rw [if_neg (by simp [hx0]), if_neg hy255, if_pos hy1, if_neg h20]
                rw [e, if_neg (by omega), wrap_succ si1]
                simp only [keys_Text.f, Option.bind_some]
                unfold tres
                rw [if_pos rfl]
                simp only
                rw [show a.size - m.length = i + 1 + 1 by omega]
                rfl
            · have hyn1 : ¬ ((y.toNat : Nat) : Int) = 1 := fun h => hy1 (UInt8.toNat_inj.mp (show y.toNat = 1 by omega))
              have e : txt acc (x :: y :: m) = ([], [], 2) := by simp only [txt]; rw [if_neg (by simp [hx0]), if_neg hy255, if_neg hy1]
              rw [e, if_neg hyn1]
              rfl
      · have hz : ¬ ((x.toNat : Nat) : Int) = 0 := fun h => hx0 (UInt8.toNat_inj.mp (show x.toNat = 0 by omega))
        have e : txt acc (x :: l') = txt (acc ++ [x]) l' := by
          match l' with
          | [] => rfl
          | y :: m => simp only [txt]; rw [if_pos hx0]
        rw [e]
        have q := ih l' (acc ++ [x]) (i + 1) (by simp only [List.length_cons] at hl; omega) hd' (by omega) (by rw [List.length_append, List.length_cons, List.length_nil]; omega)
        rw [ints_append] at q
        refine Ev.step (fun k => ?_) q
        simp only [keys_text.l0]
        rw [if_pos (by omega), if_pos (by omega), hbt, if_neg hz, if_pos (by rw [ints_length]; omega), wrap_succ si]
        rfl

theorem text_f (a : ByteArray) (l : List UInt8) (ha : a.data.toList.drop 1 = l) (h1 : 1 ≤ a.size) (h2 : a.size < 1000000) : Ev (fun k => keys_text.f k a) (tres a.size (txt [] l)) :=
  text_l0 a h2 l.length l [] 1 (Nat.le_refl _) ha h1 (by simp)

def gres (x4 : List S36) (r : List PV × Int) : List S36 × Int := if r.2 = 0 then (x4 ++ r.1.map s36, 0) else ([], r.2)

theorem gres_cons (x4 : List S36) (v : PV) (n : Nat) (l : List UInt8) (hne : l ≠ []) (h1 : (one l).1 = 0) (hv : (one l).2.1 = v) : gres x4 (getP (n + 1) l) = gres (x4 ++ [s36 v]) (getP n (one l).2.2) := by
  simp only [getP]
  rw [if_neg hne, if_pos h1, hv]
  generalize getP n (one l).2.2 = r
  unfold gres
  by_cases h : r.2 = 0
  · simp [h]
  · simp [h]

theorem getF_l0 (n : Nat) : ∀ (a : ByteArray) (x4 : List S36), a.size < n → n ≤ 1000000 → x4.length + a.size < 1000000 → Ev (fun k => keys_Get.l0 k a x4) (gres x4 (getP n a.data.toList)) := by
  induction n with
  | zero => intro a x4 h; omega
  | succ n ih =>
    intro a x4 hn hn2 hx4
    by_cases hnil : a.data.toList = []
    · refine ⟨1, fun k hk => ?_⟩
      obtain ⟨K, rfl⟩ : ∃ K, k = K + 1 := ⟨k - 1, by omega⟩
      simp only [keys_Get.l0]
      rw [if_pos (by rw [Lib.toList_data]; exact hnil), hnil]
      simp [gres, getP]
    · obtain ⟨x, l, hxl⟩ : ∃ x l, a.data.toList = x :: l := by
        cases h : a.data.toList with
        | nil => exact absurd h hnil
        | cons x l => exact ⟨x, l, rfl⟩
      obtain ⟨h0, hx, hd, hsz⟩ := drop_facts a 0 x l (by rw [List.drop_zero]; exact hxl)
      have hbt : bt a 0 = ((x.toNat : Nat) : Int) := by rw [show (0 : Int) = ((0 : Nat) : Int) from rfl, btL a 0 h0, hx]
      have hnil' : ¬ a.toList = [] := by rw [Lib.toList_data]; exact hnil
      rw [Nat.zero_add] at hd
      rw [hxl]
      have fail : ∀ e : Int, (one (x :: l)).1 = e → e ≠ 0 → gres x4 (getP (n + 1) (x :: l)) = ([], e) := by
        intro e he hne
        simp only [getP]
        rw [if_neg (by simp), if_neg (by rw [he]; exact hne), he]
        unfold gres
        rw [if_neg hne]
      by_cases h16 : x = 16
      · have hx16 : ((x.toNat : Nat) : Int) = 16 := by rw [h16]; rfl
        obtain ⟨K1, hK1⟩ := number_f a l hd (by omega)
        by_cases hl : l.length < 6
        · have e : one (x :: l) = (3, none0, []) := by simp only [one]; rw [if_pos h16, if_pos hl]
          rw [fail 3 (by rw [e]) (by decide)]
          refine ⟨K1 + 1, fun k hk => ?_⟩
          obtain ⟨K, rfl⟩ : ∃ K, k = K + 1 := ⟨k - 1, by omega⟩
          have g := hK1 K (by omega)
          simp only at g
          rw [if_pos hl] at g
          simp only [keys_Get.l0]
          rw [if_neg hnil', if_pos (by omega), hbt, if_pos hx16, g]
          simp only [Option.bind_some]
          rw [if_neg (by decide)]
        · by_cases hn3 : 2199023255552 < num (l.take 6)
          · have e : one (x :: l) = (2, none0, []) := by simp only [one]; rw [if_pos h16, if_neg hl, if_pos hn3]
            rw [fail 2 (by rw [e]) (by decide)]
            refine ⟨K1 + 1, fun k hk => ?_⟩
            obtain ⟨K, rfl⟩ : ∃ K, k = K + 1 := ⟨k - 1, by omega⟩
            have g := hK1 K (by omega)
            simp only at g
            rw [if_neg hl] at g
            unfold nres at g
            rw [if_pos hn3] at g
            simp only [keys_Get.l0]
            rw [if_neg hnil', if_pos (by omega), hbt, if_pos hx16, g]
            simp only [Option.bind_some]
            rw [if_neg (by decide)]
          · have e : one (x :: l) = (0, ⟨[], (num (l.take 6) : Int) - 1099511627776, false⟩, l.drop 6) := by simp only [one]; rw [if_pos h16, if_neg hl, if_neg hn3]
            have hrest : (a.extract 7 a.size).data.toList = l.drop 6 := by rw [extract_back, hxl]; rfl
            have hrs : (a.extract 7 a.size).size = a.size - 7 := by rw [← sizeL, hrest, List.length_drop]; omega
            have q := ih (a.extract 7 a.size) (x4 ++ [s36 ⟨[], (num (l.take 6) : Int) - 1099511627776, false⟩]) (by omega) (by omega) (by rw [List.length_append, List.length_cons, List.length_nil]; omega)
            rw [gres_cons x4 _ n (x :: l) (by simp) (by rw [e]) (by rw [e]), e]
            simp only
            rw [hrest] at q
            obtain ⟨K2, hK2⟩ := q
            refine ⟨K1 + K2 + 1, fun k hk => ?_⟩
            obtain ⟨K, rfl⟩ : ∃ K, k = K + 1 := ⟨k - 1, by omega⟩
            have g := hK1 K (by omega)
            have g2 := hK2 K (by omega)
            simp only at g g2
            rw [if_neg hl] at g
            unfold nres at g
            rw [if_neg hn3] at g
            simp only [keys_Get.l0]
            rw [if_neg hnil', if_pos (by omega), hbt, if_pos hx16, g]
            simp only [Option.bind_some]
            rw [if_pos trivial, if_pos (by omega), if_pos (by decide), if_pos (by omega)]
            exact g2
      · have hx16 : ¬ ((x.toNat : Nat) : Int) = 16 := fun h => h16 (UInt8.toNat_inj.mp (show x.toNat = 16 by omega))
        by_cases h32 : x = 32
        · have hx32 : ((x.toNat : Nat) : Int) = 32 := by rw [h32]; rfl
          obtain ⟨K1, hK1⟩ := text_f a l hd (by omega) (by omega)
          by_cases ht : (txt [] l).2.2 = 0
          · have e : one (x :: l) = (0, ⟨(txt [] l).1, 0, true⟩, (txt [] l).2.1) := by simp only [one]; rw [if_neg h16, if_pos h32, if_pos ht]
            obtain ⟨t, t1, t2, t3⟩ := txt_back l.length l [] (Nat.le_refl _) ht
            have hml : (txt [] l).2.1.length + 2 ≤ l.length := by
              have := congrArg List.length t2
              rw [List.length_append, List.length_cons, List.length_cons] at this
              omega
            have hrest : (a.extract (a.size - (txt [] l).2.1.length) a.size).data.toList = (txt [] l).2.1 := by
              rw [extract_back, hxl]
              have hh : x :: l = (x :: (esc t ++ [0, 1])) ++ (txt [] l).2.1 := by
                conv => lhs; rw [t2]
                simp
              have hlen : (x :: (esc t ++ [0, 1])).length = a.size - (txt [] l).2.1.length := by
                have := congrArg List.length t2
                rw [List.length_append, List.length_cons, List.length_cons] at this
                simp only [List.length_cons, List.length_append, List.length_nil]
                omega
              rw [hh, ← hlen, List.drop_left]
            have hrs : (a.extract (a.size - (txt [] l).2.1.length) a.size).size = (txt [] l).2.1.length := by rw [← sizeL, hrest]
            have q := ih (a.extract (a.size - (txt [] l).2.1.length) a.size) (x4 ++ [s36 ⟨(txt [] l).1, 0, true⟩]) (by omega) (by omega) (by rw [List.length_append, List.length_cons, List.length_nil]; omega)
            rw [gres_cons x4 _ n (x :: l) (by simp) (by rw [e]) (by rw [e]), e]
            simp only
            rw [hrest] at q
            obtain ⟨K2, hK2⟩ := q
            refine ⟨K1 + K2 + 1, fun k hk => ?_⟩
            obtain ⟨K, rfl⟩ : ∃ K, k = K + 1 := ⟨k - 1, by omega⟩
            have g := hK1 K (by omega)
            have g2 := hK2 K (by omega)
            simp only at g g2
            unfold tres at g
            rw [if_pos ht] at g
            simp only [keys_Get.l0]
            rw [if_neg hnil', if_pos (by omega), hbt, if_neg hx16, if_pos hx32, g]
            simp only [Option.bind_some]
            rw [if_pos trivial, if_pos (by omega), if_pos (by omega), if_pos (by omega), Int.toNat_natCast]
            exact g2
          · have e : one (x :: l) = ((txt [] l).2.2, none0, []) := by simp only [one]; rw [if_neg h16, if_pos h32, if_neg ht]
            rw [fail (txt [] l).2.2 (by rw [e]) ht]
            refine ⟨K1 + 1, fun k hk => ?_⟩
            obtain ⟨K, rfl⟩ : ∃ K, k = K + 1 := ⟨k - 1, by omega⟩
            have g := hK1 K (by omega)
            simp only at g
            unfold tres at g
            rw [if_neg ht] at g
            simp only [keys_Get.l0]
            rw [if_neg hnil', if_pos (by omega), hbt, if_neg hx16, if_pos hx32, g]
            simp only [Option.bind_some]
            rw [if_neg ht]
        · have hx32 : ¬ ((x.toNat : Nat) : Int) = 32 := fun h => h32 (UInt8.toNat_inj.mp (show x.toNat = 32 by omega))
          have e : one (x :: l) = (2, none0, []) := by simp only [one]; rw [if_neg h16, if_neg h32]
          rw [fail 2 (by rw [e]) (by decide)]
          refine ⟨1, fun k hk => ?_⟩
          obtain ⟨K, rfl⟩ : ∃ K, k = K + 1 := ⟨k - 1, by omega⟩
          simp only [keys_Get.l0]
          rw [if_neg hnil', if_pos (by omega), hbt, if_neg hx16, if_neg hx32, if_neg (by decide)]

/-- What Get answers. -/
def getL (s : List UInt8) : List PV × Int := getP (s.length + 1) s
theorem getF (a : ByteArray) (ha : a.size < 900000) : Ev (fun k => keys_Get.f k a) (gres [] (getL a.data.toList)) := by
  unfold getL
  rw [sizeL]
  exact getF_l0 (a.size + 1) a [] (by omega) (by omega) (by simp; omega)

/-- The values of a list, as read out of another kind's. -/
theorem s36_inj {v w : PV} : s36 v = s36 w ↔ v = w := ⟨fun h => by rw [← p36_s36 v, h, p36_s36], fun h => by rw [h]⟩

end Go.Proofs.Ytojelhacelfjkaa.KB

/-
  Layer 1: what Get and Compare answer; keys are ordered as their values are.
-/
import Derived.Test.YtfaabbimbjegmaaDoorKeys
set_option linter.unusedVariables false
set_option linter.unusedSimpArgs false
namespace Go.Proofs.YtfaabbimbjegmaaDoor.KB
open Go.RowKit Go.Proofs.YtfaabbimbjegmaaDoor.PA Go.Proofs.YtfaabbimbjegmaaDoor.BB Go.Proofs.YtfaabbimbjegmaaDoorW.PrintWords Go.Proofs.YtfaabbimbjegmaaDoorW.PrintLast Go.Proofs.YtfaabbimbjegmaaDoorW.PrintMore

def s32 (v : PV) : S32 := ⟨B v.t, v.n, v.b⟩
theorem p32_s32 (v : PV) : p32 (s32 v) = v := by unfold p32 s32; simp only [B_L]
theorem s32_p32 (v : S32) : s32 (p32 v) = v := by unfold p32 s32; simp only [B_eq]
/-- A number at the beginning. -/
def nres (l : List UInt8) : ByteArray × Int × Bool × Int × Int := if 2199023255552 < num (l.take 6) then (⟨#[]⟩, 0, false, 0, 2) else (⟨#[]⟩, (num (l.take 6) : Int) - 1099511627776, false, 7, 0)

theorem num_take_lt (l : List UInt8) (i : Nat) (hi : i < 7) : num (l.take i) < 36028797018963968 := by
  have h := num_lt (l.take i)
  have h2 : (l.take i).length ≤ 6 := by rw [List.length_take]; omega
  have h3 : 256 ^ (l.take i).length ≤ 256 ^ 6 := Nat.pow_le_pow_right (by decide) h2
  have h4 : (256 : Nat) ^ 6 < 36028797018963968 := by decide
  omega

theorem number_l0 (a : ByteArray) (l : List UInt8) (ha : a.data.toList.drop 1 = l) (h6 : 6 ≤ l.length) (d : Nat) : ∀ i, i + d = 6 →
    Ev (fun k => keys_number.l0 k a ((num (l.take i) : Nat) : Int) ((i + 1 : Nat) : Int)) (nres l) := by
  have hsz : a.size = l.length + 1 := by
    have := congrArg List.length ha
    rw [List.length_drop, sizeL] at this
    omega
  induction d with
  | zero =>
    intro i hi
    obtain rfl : i = 6 := by omega
    refine ⟨1, fun k hk => ?_⟩
    obtain ⟨K, rfl⟩ : ∃ K, k = K + 1 := ⟨k - 1, by omega⟩
    have hn := num_take_lt l 6 (by omega)
    simp only [keys_number.l0]
    rw [if_neg (by omega)]
    unfold nres
    generalize num (l.take 6) = n at *
    by_cases h : 2199023255552 < n
    · rw [if_pos (by omega), if_pos h]
    · rw [if_neg (by omega), if_neg h]
      simp only [keys_Number.f, Option.bind_some]
      rw [show wrap64 ((n : Int) - 1099511627776) = (n : Int) - 1099511627776 by unfold wrap64; omega]
  | succ d ih =>
    intro i hi
    have e := ih (i + 1) (by omega)
    have hlt : i + 1 < a.size := by omega
    have hx := num_take_lt l i (by omega)
    have hil : i < l.length := by omega
    have ht : l.take (i + 1) = l.take i ++ [l[i]] := List.take_succ_eq_append_getElem hil
    have hget : (a[i + 1]'hlt) = l[i] := by
      have h1 : (a.data.toList.drop 1)[i]? = l[i]? := by rw [ha]
      rw [List.getElem?_drop, List.getElem?_eq_getElem hil, Nat.add_comm] at h1
      rw [List.getElem?_eq_getElem (by rw [sizeL]; exact hlt)] at h1
      exact Option.some.inj h1
    rw [ht, num_snoc] at e
    refine Ev.step (fun k => ?_) e
    simp only [keys_number.l0]
    rw [if_pos (by omega), if_pos (by omega), if_pos (by omega), btL a (i + 1) hlt, hget, or_join _ _ hx (UInt8.toNat_lt _), wrap_succ (by omega)]

theorem number_f (a : ByteArray) (l : List UInt8) (ha : a.data.toList.drop 1 = l) (h1 : 1 ≤ a.size) : Ev (fun k => keys_number.f k a) (if l.length < 6 then (⟨#[]⟩, 0, false, 0, 3) else nres l) := by
  have hsz : a.size = l.length + 1 := by
    have := congrArg List.length ha
    rw [List.length_drop, sizeL] at this
    omega
  by_cases h : l.length < 6
  · rw [if_pos h]
    refine ⟨0, fun k _ => ?_⟩
    simp only [keys_number.f]
    rw [if_pos (by omega)]
  · rw [if_neg h]
    have e := number_l0 a l ha (by omega) 6 0 (by omega)
    obtain ⟨K, hK⟩ := e
    refine ⟨K, fun k hk => ?_⟩
    simp only [keys_number.f]
    rw [if_neg (by omega)]
    exact hK k hk

/-- A text at the beginning. -/
def tres (N : Nat) (r : List UInt8 × List UInt8 × Int) : ByteArray × Int × Bool × Int × Int := if r.2.2 = 0 then (B r.1, 0, true, ((N - r.2.1.length : Nat) : Int), 0) else (⟨#[]⟩, 0, false, 0, r.2.2)

theorem drop_facts (a : ByteArray) (i : Nat) (x : UInt8) (l : List UInt8) (h : a.data.toList.drop i = x :: l) : ∃ hi : i < a.size, a[i]'hi = x ∧ a.data.toList.drop (i + 1) = l ∧ a.size = i + 1 + l.length := by
  have hl := congrArg List.length h
  rw [List.length_drop, sizeL, List.length_cons] at hl
  have hi : i < a.size := by omega
  rw [drop_cons a i hi] at h
  injection h with h1 h2
  exact ⟨hi, h1, h2, by omega⟩
theorem drop_nil (a : ByteArray) (i : Nat) (hi : i ≤ a.size) (h : a.data.toList.drop i = []) : i = a.size := by
  have hl := congrArg List.length h
  rw [List.length_drop, sizeL, List.length_nil] at hl
  omega

theorem text_end (a : ByteArray) (acc : List UInt8) : Ev (fun k => keys_text.l0 k a (ints acc) (a.size : Int)) (⟨#[]⟩, 0, false, 0, 3) := by
  refine ⟨1, fun k hk => ?_⟩
  obtain ⟨K, rfl⟩ : ∃ K, k = K + 1 := ⟨k - 1, by omega⟩
  simp only [keys_text.l0]
  rw [if_neg (by omega)]

theorem text_l0 (a : ByteArray) (ha : a.size < 1000000) (n : Nat) : ∀ l acc i, l.length ≤ n → a.data.toList.drop i = l → i ≤ a.size → acc.length ≤ i →
    Ev (fun k => keys_text.l0 k a (ints acc) (i : Int)) (tres a.size (txt acc l)) := by
  induction n with
  | zero =>
    intro l acc i hl hd hi hacc
    have : l = [] := List.eq_nil_of_length_eq_zero (by omega)
    subst this
    have := drop_nil a i hi hd
    subst this
    exact text_end a acc
  | succ n ih =>
    intro l acc i hl hd hi hacc
    match l, hl, hd with
    | [], _, hd =>
      have := drop_nil a i hi hd
      subst this
      exact text_end a acc
    | x :: l', hl, hd =>
      obtain ⟨hlt, hx, hd', hsz⟩ := drop_facts a i x l' hd
      have hbt : bt a (i : Int) = ((x.toNat : Nat) : Int) := by rw [btL a i hlt, hx]
      have si : i < 9223372036854775807 := by omega
      by_cases hx0 : x = 0
      · have hz : ((x.toNat : Nat) : Int) = 0 := by rw [hx0]; rfl
        match l', hl, hd', hsz, hd with
        | [], hl, hd', hsz, hd =>
          refine ⟨1, fun k hk => ?_⟩
          obtain ⟨K, rfl⟩ : ∃ K, k = K + 1 := ⟨k - 1, by omega⟩
          simp only [keys_text.l0]
          rw [if_pos (by omega), if_pos (by omega), hbt, if_pos hz, wrap_succ si, if_pos (by rw [hsz]; rfl)]
          rfl
        | y :: m, hl, hd', hsz, hd =>
          obtain ⟨hlt2, hy, hd2, hsz2⟩ := drop_facts a (i + 1) y m hd'
          have hbt2 : bt a ((i + 1 : Nat) : Int) = ((y.toNat : Nat) : Int) := by rw [btL a (i + 1) hlt2, hy]
          have si1 : i + 1 < 9223372036854775807 := by omega
          by_cases hy255 : y = 255
          · have e : txt acc (x :: y :: m) = txt (acc ++ [0]) m := by simp only [txt]; rw [if_neg (by simp [hx0]), if_pos hy255]
            rw [e]
            have q := ih m (acc ++ [0]) (i + 1 + 1) (by simp only [List.length_cons] at hl; omega) hd2 (by omega) (by rw [List.length_append, List.length_cons, List.length_nil]; omega)
            rw [ints_append] at q
            refine Ev.step (fun k => ?_) q
            simp only [keys_text.l0]
            rw [if_pos (by omega), if_pos (by omega), hbt, if_pos hz, wrap_succ si, if_neg (by omega), if_pos (by omega), if_pos (by omega), hbt2, if_pos (by rw [hy255]; rfl), if_pos (by rw [ints_length]; omega), wrap_succ si1]
            rfl
          · have hyn : ¬ ((y.toNat : Nat) : Int) = 255 := fun h => hy255 (UInt8.toNat_inj.mp (show y.toNat = 255 by omega))
            refine ⟨1, fun k hk => ?_⟩
            obtain ⟨K, rfl⟩ : ∃ K, k = K + 1 := ⟨k - 1, by omega⟩
            simp only [keys_text.l0]
            rw [if_pos (by omega), if_pos (by omega), hbt, if_pos hz, wrap_succ si, if_neg (by omega), if_pos (by omega), if_pos (by omega), hbt2, if_neg hyn]
            by_cases hy1 : y = 1
            · rw [if_pos (by rw [hy1]; rfl), ints_length]
              by_cases h20 : 20 < acc.length
              · have e : txt acc (x :: y :: m) = ([], [], 6) := by simp only [txt]; rw [if_neg (by simp [hx0]), if_neg hy255, if_pos hy1, if_pos h20]
                rw [e, if_pos (by omega)]
                rfl
              · have e : txt acc (x :: y :: m) = (acc, m, 0) := by simp only [txt]; rw [if_neg (by simp [hx0]), if_neg hy255, if_pos hy1, if_neg h20]
                rw [e, if_neg (by omega), wrap_succ si1]
                simp only [keys_Text.f, Option.bind_some]
                unfold tres
                rw [if_pos rfl]
                simp only
                rw [show a.size - m.length = i + 1 + 1 by omega]
                rfl
            · have hyn1 : ¬ ((y.toNat : Nat) : Int) = 1 := fun h => hy1 (UInt8.toNat_inj.mp (show y.toNat = 1 by omega))
              have e : txt acc (x :: y :: m) = ([], [], 2) := by simp only [txt]; rw [if_neg (by simp [hx0]), if_neg hy255, if_neg hy1]
              rw [e, if_neg hyn1]
              rfl
      · have hz : ¬ ((x.toNat : Nat) : Int) = 0 := fun h => hx0 (UInt8.toNat_inj.mp (show x.toNat = 0 by omega))
        have e : txt acc (x :: l') = txt (acc ++ [x]) l' := by
          match l' with
          | [] => rfl
          | y :: m => simp only [txt]; rw [if_pos hx0]
        rw [e]
        have q := ih l' (acc ++ [x]) (i + 1) (by simp only [List.length_cons] at hl; omega) hd' (by omega) (by rw [List.length_append, List.length_cons, List.length_nil]; omega)
        rw [ints_append] at q
        refine Ev.step (fun k => ?_) q
        simp only [keys_text.l0]
        rw [if_pos (by omega), if_pos (by omega), hbt, if_neg hz, if_pos (by rw [ints_length]; omega), wrap_succ si]
        rfl

theorem text_f (a : ByteArray) (l : List UInt8) (ha : a.data.toList.drop 1 = l) (h1 : 1 ≤ a.size) (h2 : a.size < 1000000) : Ev (fun k => keys_text.f k a) (tres a.size (txt [] l)) :=
  text_l0 a h2 l.length l [] 1 (Nat.le_refl _) ha h1 (by simp)

def gres (x4 : List S32) (r : List PV × Int) : List S32 × Int := if r.2 = 0 then (x4 ++ r.1.map s32, 0) else ([], r.2)

theorem gres_cons (x4 : List S32) (v : PV) (n : Nat) (l : List UInt8) (hne : l ≠ []) (h1 : (one l).1 = 0) (hv : (one l).2.1 = v) : gres x4 (getP (n + 1) l) = gres (x4 ++ [s32 v]) (getP n (one l).2.2) := by
  simp only [getP]
  rw [if_neg hne, if_pos h1, hv]
  generalize getP n (one l).2.2 = r
  unfold gres
  by_cases h : r.2 = 0
  · simp [h]
  · simp [h]

theorem getF_l0 (n : Nat) : ∀ (a : ByteArray) (x4 : List S32), a.size < n → n ≤ 1000000 → x4.length + a.size < 1000000 → Ev (fun k => keys_Get.l0 k a x4) (gres x4 (getP n a.data.toList)) := by
  induction n with
  | zero => intro a x4 h; omega
  | succ n ih =>
    intro a x4 hn hn2 hx4
    by_cases hnil : a.data.toList = []
    · refine ⟨1, fun k hk => ?_⟩
      obtain ⟨K, rfl⟩ : ∃ K, k = K + 1 := ⟨k - 1, by omega⟩
      simp only [keys_Get.l0]
      rw [if_pos (by rw [Lib.toList_data]; exact hnil), hnil]
      simp [gres, getP]
    · obtain ⟨x, l, hxl⟩ : ∃ x l, a.data.toList = x :: l := by
        cases h : a.data.toList with
        | nil => exact absurd h hnil
        | cons x l => exact ⟨x, l, rfl⟩
      obtain ⟨h0, hx, hd, hsz⟩ := drop_facts a 0 x l (by rw [List.drop_zero]; exact hxl)
      have hbt : bt a 0 = ((x.toNat : Nat) : Int) := by rw [show (0 : Int) = ((0 : Nat) : Int) from rfl, btL a 0 h0, hx]
      have hnil' : ¬ a.toList = [] := by rw [Lib.toList_data]; exact hnil
      rw [Nat.zero_add] at hd
      rw [hxl]
      have fail : ∀ e : Int, (one (x :: l)).1 = e → e ≠ 0 → gres x4 (getP (n + 1) (x :: l)) = ([], e) := by
        intro e he hne
        simp only [getP]
        rw [if_neg (by simp), if_neg (by rw [he]; exact hne), he]
        unfold gres
        rw [if_neg hne]
      by_cases h16 : x = 16
      · have hx16 : ((x.toNat : Nat) : Int) = 16 := by rw [h16]; rfl
        obtain ⟨K1, hK1⟩ := number_f a l hd (by omega)
        by_cases hl : l.length < 6
        · have e : one (x :: l) = (3, none0, []) := by simp only [one]; rw [if_pos h16, if_pos hl]
          rw [fail 3 (by rw [e]) (by decide)]
          refine ⟨K1 + 1, fun k hk => ?_⟩
          obtain ⟨K, rfl⟩ : ∃ K, k = K + 1 := ⟨k - 1, by omega⟩
          have g := hK1 K (by omega)
          simp only at g
          rw [if_pos hl] at g
          simp only [keys_Get.l0]
          rw [if_neg hnil', if_pos (by omega), hbt, if_pos hx16, g]
          simp only [Option.bind_some]
          rw [if_neg (by decide)]
        · by_cases hn3 : 2199023255552 < num (l.take 6)
          · have e : one (x :: l) = (2, none0, []) := by simp only [one]; rw [if_pos h16, if_neg hl, if_pos hn3]
            rw [fail 2 (by rw [e]) (by decide)]
            refine ⟨K1 + 1, fun k hk => ?_⟩
            obtain ⟨K, rfl⟩ : ∃ K, k = K + 1 := ⟨k - 1, by omega⟩
            have g := hK1 K (by omega)
            simp only at g
            rw [if_neg hl] at g
            unfold nres at g
            rw [if_pos hn3] at g
            simp only [keys_Get.l0]
            rw [if_neg hnil', if_pos (by omega), hbt, if_pos hx16, g]
            simp only [Option.bind_some]
            rw [if_neg (by decide)]
          · have e : one (x :: l) = (0, ⟨[], (num (l.take 6) : Int) - 1099511627776, false⟩, l.drop 6) := by simp only [one]; rw [if_pos h16, if_neg hl, if_neg hn3]
            have hrest : (a.extract 7 a.size).data.toList = l.drop 6 := by rw [extract_back, hxl]; rfl
            have hrs : (a.extract 7 a.size).size = a.size - 7 := by rw [← sizeL, hrest, List.length_drop]; omega
            have q := ih (a.extract 7 a.size) (x4 ++ [s32 ⟨[], (num (l.take 6) : Int) - 1099511627776, false⟩]) (by omega) (by omega) (by rw [List.length_append, List.length_cons, List.length_nil]; omega)
            rw [gres_cons x4 _ n (x :: l) (by simp) (by rw [e]) (by rw [e]), e]
            simp only
            rw [hrest] at q
            obtain ⟨K2, hK2⟩ := q
            refine ⟨K1 + K2 + 1, fun k hk => ?_⟩
            obtain ⟨K, rfl⟩ : ∃ K, k = K + 1 := ⟨k - 1, by omega⟩
            have g := hK1 K (by omega)
            have g2 := hK2 K (by omega)
            simp only at g g2
            rw [if_neg hl] at g
            unfold nres at g
            rw [if_neg hn3] at g
            simp only [keys_Get.l0]
            rw [if_neg hnil', if_pos (by omega), hbt, if_pos hx16, g]
            simp only [Option.bind_some]
            rw [if_pos trivial, if_pos (by omega), if_pos (by decide), if_pos (by omega)]
            exact g2
      · have hx16 : ¬ ((x.toNat : Nat) : Int) = 16 := fun h => h16 (UInt8.toNat_inj.mp (show x.toNat = 16 by omega))
        by_cases h32 : x = 32
        · have hx32 : ((x.toNat : Nat) : Int) = 32 := by rw [h32]; rfl
          obtain ⟨K1, hK1⟩ := text_f a l hd (by omega) (by omega)
          by_cases ht : (txt [] l).2.2 = 0
          · have e : one (x :: l) = (0, ⟨(txt [] l).1, 0, true⟩, (txt [] l).2.1) := by simp only [one]; rw [if_neg h16, if_pos h32, if_pos ht]
            obtain ⟨t, t1, t2, t3⟩ := txt_back l.length l [] (Nat.le_refl _) ht
            have hml : (txt [] l).2.1.length + 2 ≤ l.length := by
              have := congrArg List.length t2
              rw [List.length_append, List.length_cons, List.length_cons] at this
              omega
            have hrest : (a.extract (a.size - (txt [] l).2.1.length) a.size).data.toList = (txt [] l).2.1 := by
              rw [extract_back, hxl]
              have hh : x :: l = (x :: (esc t ++ [0, 1])) ++ (txt [] l).2.1 := by
                conv => lhs; rw [t2]
                simp
              have hlen : (x :: (esc t ++ [0, 1])).length = a.size - (txt [] l).2.1.length := by
                have := congrArg List.length t2
                rw [List.length_append, List.length_cons, List.length_cons] at this
                simp only [List.length_cons, List.length_append, List.length_nil]
                omega
              rw [hh, ← hlen, List.drop_left]
            have hrs : (a.extract (a.size - (txt [] l).2.1.length) a.size).size = (txt [] l).2.1.length := by rw [← sizeL, hrest]
            have q := ih (a.extract (a.size - (txt [] l).2.1.length) a.size) (x4 ++ [s32 ⟨(txt [] l).1, 0, true⟩]) (by omega) (by omega) (by rw [List.length_append, List.length_cons, List.length_nil]; omega)
            rw [gres_cons x4 _ n (x :: l) (by simp) (by rw [e]) (by rw [e]), e]
            simp only
            rw [hrest] at q
            obtain ⟨K2, hK2⟩ := q
            refine ⟨K1 + K2 + 1, fun k hk => ?_⟩
            obtain ⟨K, rfl⟩ : ∃ K, k = K + 1 := ⟨k - 1, by omega⟩
            have g := hK1 K (by omega)
            have g2 := hK2 K (by omega)
            simp only at g g2
            unfold tres at g
            rw [if_pos ht] at g
            simp only [keys_Get.l0]
            rw [if_neg hnil', if_pos (by omega), hbt, if_neg hx16, if_pos hx32, g]
            simp only [Option.bind_some]
            rw [if_pos trivial, if_pos (by omega), if_pos (by omega), if_pos (by omega), Int.toNat_natCast]
            exact g2
          · have e : one (x :: l) = ((txt [] l).2.2, none0, []) := by simp only [one]; rw [if_neg h16, if_pos h32, if_neg ht]
            rw [fail (txt [] l).2.2 (by rw [e]) ht]
            refine ⟨K1 + 1, fun k hk => ?_⟩
            obtain ⟨K, rfl⟩ : ∃ K, k = K + 1 := ⟨k - 1, by omega⟩
            have g := hK1 K (by omega)
            simp only at g
            unfold tres at g
            rw [if_neg ht] at g
            simp only [keys_Get.l0]
            rw [if_neg hnil', if_pos (by omega), hbt, if_neg hx16, if_pos hx32, g]
            simp only [Option.bind_some]
            rw [if_neg ht]
        · have hx32 : ¬ ((x.toNat : Nat) : Int) = 32 := fun h => h32 (UInt8.toNat_inj.mp (show x.toNat = 32 by omega))
          have e : one (x :: l) = (2, none0, []) := by simp only [one]; rw [if_neg h16, if_neg h32]
          rw [fail 2 (by rw [e]) (by decide)]
          refine ⟨1, fun k hk => ?_⟩
          obtain ⟨K, rfl⟩ : ∃ K, k = K + 1 := ⟨k - 1, by omega⟩
          simp only [keys_Get.l0]
          rw [if_neg hnil', if_pos (by omega), hbt, if_neg hx16, if_neg hx32, if_neg (by decide)]

/-- What Get answers. -/
def getL (s : List UInt8) : List PV × Int := getP (s.length + 1) s
theorem getF (a : ByteArray) (ha : a.size < 900000) : Ev (fun k => keys_Get.f k a) (gres [] (getL a.data.toList)) := by
  unfold getL
  rw [sizeL]
  exact getF_l0 (a.size + 1) a [] (by omega) (by omega) (by simp; omega)

/-- The values of a list, as read out of another kind's. -/
theorem s32_inj {v w : PV} : s32 v = s32 w ↔ v = w := ⟨fun h => by rw [← p32_s32 v, h, p32_s32], fun h => by rw [h]⟩

theorem u_lt (x : UInt8) (h : x ≠ 255) : x < x + 1 := by
  rw [UInt8.lt_iff_toNat_lt, UInt8.toNat_add]
  have h1 : x.toNat ≠ 255 := fun e => h (UInt8.toNat_inj.mp e)
  have h2 : x.toNat < 256 := UInt8.toNat_lt x
  have : (1 : UInt8).toNat = 1 := rfl
  omega
theorem u_succ (x y : UInt8) (h : x < y) : ¬ y < x + 1 := by
  rw [UInt8.lt_iff_toNat_lt] at h ⊢
  rw [UInt8.toNat_add]
  have h2 : y.toNat < 256 := UInt8.toNat_lt y
  have : (1 : UInt8).toNat = 1 := rfl
  omega
theorem u_irr (x : UInt8) : ¬ x < x := by rw [UInt8.lt_iff_toNat_lt]; omega
theorem u_eq {x y : UInt8} (h : ¬ x < y) (h' : ¬ y < x) : x = y := by
  rw [UInt8.lt_iff_toNat_lt] at h h'
  exact UInt8.toNat_inj.mp (by omega)
theorem u_full (y : UInt8) (h : y ≠ 255) : y < 255 := by
  rw [UInt8.lt_iff_toNat_lt]
  have h1 : y.toNat ≠ 255 := fun e => h (UInt8.toNat_inj.mp e)
  have h2 : y.toNat < 256 := UInt8.toNat_lt y
  have : (255 : UInt8).toNat = 255 := rfl
  omega

theorem cb_nil_ge (m : List UInt8) : 0 ≤ Lib.compareBytes m [] := by cases m <;> simp [Lib.compareBytes]
theorem cb_cons (x : UInt8) (l m : List UInt8) : Lib.compareBytes (x :: l) (x :: m) = Lib.compareBytes l m := by
  simp only [Lib.compareBytes]; rw [if_neg (u_irr x), if_neg (u_irr x)]
theorem cb_append (p l m : List UInt8) : Lib.compareBytes (p ++ l) (p ++ m) = Lib.compareBytes l m := by
  induction p with
  | nil => rfl
  | cons x p ih => rw [List.cons_append, List.cons_append, cb_cons, ih]


def cmpN (m n : Int) : Int := if m < n then -1 else if m > n then 1 else 0
/-- The order of values. -/
def cmpV (v w : PV) : Int := if v.b = true then (if w.b = true then Lib.compareBytes v.t w.t else 1) else (if w.b = true then -1 else cmpN v.n w.n)
def cmpL : List PV → List PV → Int
  | [], [] => 0
  | [], _ :: _ => -1
  | _ :: _, [] => 1
  | v :: vs, w :: ws => if cmpV v w = 0 then cmpL vs ws else cmpV v w

theorem cb_lt {x y : UInt8} (h : x < y) (l m : List UInt8) : Lib.compareBytes (x :: l) (y :: m) = -1 := by simp only [Lib.compareBytes]; rw [if_pos h]
theorem cb_gt {x y : UInt8} (h : y < x) (l m : List UInt8) : Lib.compareBytes (x :: l) (y :: m) = 1 := by
  simp only [Lib.compareBytes]
  have : ¬ x < y := by rw [UInt8.lt_iff_toNat_lt] at h ⊢; omega
  rw [if_neg this, if_pos h]
theorem u_pos {x : UInt8} (h : x ≠ 0) : 0 < x := by
  rw [UInt8.lt_iff_toNat_lt]
  have h1 : x.toNat ≠ 0 := fun e => h (UInt8.toNat_inj.mp e)
  have : (0 : UInt8).toNat = 0 := rfl
  omega
theorem esc_cons {x : UInt8} (h : x ≠ 0) (l : List UInt8) : esc (x :: l) = x :: esc l := by simp only [esc, if_neg h]
theorem esc_zero (l : List UInt8) : esc (0 :: l) = 0 :: 255 :: esc l := by simp only [esc, if_true]

theorem cb_esc (t : List UInt8) : ∀ u r r', Lib.compareBytes (esc t ++ 0 :: 1 :: r) (esc u ++ 0 :: 1 :: r') = if Lib.compareBytes t u = 0 then Lib.compareBytes r r' else Lib.compareBytes t u := by
  induction t with
  | nil =>
    intro u r r'
    cases u with
    | nil =>
      have e : Lib.compareBytes [] [] = 0 := rfl
      rw [e, if_pos rfl]
      simp only [esc, List.nil_append, cb_cons]
    | cons y u =>
      have e : Lib.compareBytes [] (y :: u) = -1 := rfl
      rw [e, if_neg (by decide)]
      by_cases hy : y = 0
      · subst hy
        rw [esc_zero]
        simp only [esc, List.nil_append, List.cons_append, cb_cons]
        exact cb_lt (by decide) _ _
      · rw [esc_cons hy]
        simp only [esc, List.nil_append, List.cons_append]
        exact cb_lt (u_pos hy) _ _
  | cons x t ih =>
    intro u r r'
    cases u with
    | nil =>
      have e : Lib.compareBytes (x :: t) [] = 1 := rfl
      rw [e, if_neg (by decide)]
      by_cases hx : x = 0
      · subst hx
        rw [esc_zero]
        simp only [esc, List.nil_append, List.cons_append, cb_cons]
        exact cb_gt (by decide) _ _
      · rw [esc_cons hx]
        simp only [esc, List.nil_append, List.cons_append]
        exact cb_gt (u_pos hx) _ _
    | cons y u =>
      by_cases h1 : x < y
      · rw [cb_lt h1, if_neg (by decide)]
        by_cases hx : x = 0
        · subst hx
          have hy : y ≠ 0 := fun e => by subst e; exact u_irr _ h1
          rw [esc_zero, esc_cons hy]
          exact cb_lt h1 _ _
        · have hy : y ≠ 0 := fun e => by subst e; rw [UInt8.lt_iff_toNat_lt] at h1; exact absurd h1 (Nat.not_lt_zero _)
          rw [esc_cons hx, esc_cons hy]
          exact cb_lt h1 _ _
      · by_cases h2 : y < x
        · rw [cb_gt h2, if_neg (by decide)]
          have hx : x ≠ 0 := fun e => by subst e; rw [UInt8.lt_iff_toNat_lt] at h2; exact absurd h2 (Nat.not_lt_zero _)
          by_cases hy : y = 0
          · subst hy
            rw [esc_zero, esc_cons hx]
            exact cb_gt h2 _ _
          · rw [esc_cons hx, esc_cons hy]
            exact cb_gt h2 _ _
        · obtain rfl := u_eq h1 h2
          rw [cb_cons]
          by_cases hx : x = 0
          · subst hx
            rw [esc_zero, esc_zero]
            simp only [List.cons_append, cb_cons]
            exact ih u r r'
          · rw [esc_cons hx, esc_cons hx]
            simp only [List.cons_append, cb_cons]
            exact ih u r r'

theorem cb_byte (a b : Nat) (ha : a < 256) (hb : b < 256) (r r' : List UInt8) : Lib.compareBytes (UInt8.ofNat a :: r) (UInt8.ofNat b :: r') = if a < b then -1 else if b < a then 1 else Lib.compareBytes r r' := by
  have ea : (UInt8.ofNat a).toNat = a := by rw [UInt8.toNat_ofNat']; exact Nat.mod_eq_of_lt ha
  have eb : (UInt8.ofNat b).toNat = b := by rw [UInt8.toNat_ofNat']; exact Nat.mod_eq_of_lt hb
  simp only [Lib.compareBytes, UInt8.lt_iff_toNat_lt, ea, eb]

theorem cb_be (s : Nat) : ∀ m n r r', m < 256 ^ s → n < 256 ^ s → Lib.compareBytes (be m s ++ r) (be n s ++ r') = if m < n then -1 else if n < m then 1 else Lib.compareBytes r r' := by
  induction s with
  | zero =>
    intro m n r r' hm hn
    rw [Nat.pow_zero] at hm hn
    rw [if_neg (by omega), if_neg (by omega)]
    rfl
  | succ s ih =>
    intro m n r r' hm hn
    rw [Nat.pow_succ] at hm hn
    have hm' : m / 256 < 256 ^ s := Nat.div_lt_of_lt_mul (by rw [Nat.mul_comm]; exact hm)
    have hn' : n / 256 < 256 ^ s := Nat.div_lt_of_lt_mul (by rw [Nat.mul_comm]; exact hn)
    simp only [be, List.append_assoc, List.cons_append, List.nil_append]
    rw [ih _ _ _ _ hm' hn', cb_byte _ _ (Nat.mod_lt _ (by decide)) (Nat.mod_lt _ (by decide))]
    clear ih hm hn hm' hn'
    by_cases c1 : m / 256 < n / 256
    · rw [if_pos c1, if_pos (by omega)]
    · rw [if_neg c1]
      by_cases c2 : n / 256 < m / 256
      · rw [if_pos c2, if_neg (by omega), if_pos (by omega)]
      · rw [if_neg c2]
        by_cases c3 : m % 256 < n % 256
        · rw [if_pos c3, if_pos (by omega)]
        · rw [if_neg c3]
          by_cases c4 : n % 256 < m % 256
          · rw [if_pos c4, if_neg (by omega), if_pos (by omega)]
          · rw [if_neg c4, if_neg (by omega), if_neg (by omega)]

theorem cb_enc {v w : PV} (hv : okV v = 0) (hw : okV w = 0) (r r' : List UInt8) : Lib.compareBytes (enc v ++ r) (enc w ++ r') = if cmpV v w = 0 then Lib.compareBytes r r' else cmpV v w := by
  obtain ⟨v1, v2, v3, v4⟩ := okV_zero hv
  obtain ⟨w1, w2, w3, w4⟩ := okV_zero hw
  unfold enc cmpV
  cases hb : v.b with
  | true =>
    cases hc : w.b with
    | true =>
      simp only [if_true, List.cons_append, cb_cons, List.append_assoc, List.nil_append]
      exact cb_esc _ _ _ _
    | false =>
      simp only [if_true, List.cons_append, Bool.false_eq_true, if_false]
      rw [if_neg (by decide)]
      exact cb_gt (by decide) _ _
  | false =>
    cases hc : w.b with
    | true =>
      simp only [if_true, List.cons_append, Bool.false_eq_true, if_false]
      rw [if_neg (by decide)]
      exact cb_lt (by decide) _ _
    | false =>
      simp only [Bool.false_eq_true, if_false, List.cons_append, cb_cons]
      rw [cb_be 6 _ _ _ _ (by omega) (by omega)]
      unfold cmpN
      by_cases c1 : v.n < w.n
      · rw [if_pos (by omega), if_pos c1, if_neg (by decide)]
      · rw [if_neg (by omega), if_neg c1]
        by_cases c2 : v.n > w.n
        · rw [if_pos (by omega), if_pos c2, if_neg (by decide)]
        · rw [if_neg (by omega), if_neg c2, if_pos rfl]

theorem putP_cons {v : PV} {vs : List PV} (h : (putP (v :: vs)).2 = 0) : okV v = 0 ∧ (putP vs).2 = 0 ∧ (putP (v :: vs)).1 = enc v ++ (putP vs).1 := by
  simp only [putP] at h ⊢
  by_cases h1 : okV v = 0
  · by_cases h2 : (putP vs).2 = 0
    · exact ⟨h1, h2, by rw [if_pos h1, if_pos h2]⟩
    · rw [if_pos h1, if_neg h2] at h
      exact absurd h h2
  · rw [if_neg h1] at h
    exact absurd h h1

theorem cb_put (vs : List PV) : ∀ ws, (putP vs).2 = 0 → (putP ws).2 = 0 → Lib.compareBytes (putP vs).1 (putP ws).1 = cmpL vs ws := by
  induction vs with
  | nil =>
    intro ws h1 h2
    cases ws with
    | nil => rfl
    | cons w ws =>
      obtain ⟨_, _, e⟩ := putP_cons h2
      rw [e]
      have := enc_pos w
      cases he : enc w with
      | nil => rw [he] at this; simp at this
      | cons c l => rfl
  | cons v vs ih =>
    intro ws h1 h2
    obtain ⟨a1, a2, a3⟩ := putP_cons h1
    cases ws with
    | nil =>
      rw [a3]
      have := enc_pos v
      cases he : enc v with
      | nil => rw [he] at this; simp at this
      | cons c l => rfl
    | cons w ws =>
      obtain ⟨b1, b2, b3⟩ := putP_cons h2
      rw [a3, b3, cb_enc a1 b1, ih ws a2 b2]
      rfl

theorem compare_f (v w : PV) : Ev (fun k => keys_Compare.f k (s32 v).f0 (s32 v).f1 (s32 v).f2 (s32 w).f0 (s32 w).f1 (s32 w).f2) (cmpV v w) := by
  refine ⟨1, fun k hk => ?_⟩
  obtain ⟨K, rfl⟩ : ∃ K, k = K + 1 := ⟨k - 1, by omega⟩
  show keys_Compare.f (K + 1) (B v.t) v.n v.b (B w.t) w.n w.b = _
  unfold keys_Compare.f cmpV cmpN
  cases v.b <;> cases w.b <;> simp only [keys_Compare.j0, strings_Compare.f, cmp_Compare_int.f, cmp_isNaN_int.f, Option.bind_some, Bool.false_eq_true, if_false, if_true, B_L, bne_self_eq_false]
  by_cases c1 : v.n < w.n
  · simp only [if_pos c1, Option.bind_some]
  · simp only [if_neg c1]
    by_cases c2 : v.n > w.n
    · simp only [if_pos c2, Option.bind_some]
    · simp only [if_neg c2, Option.bind_some]


end Go.Proofs.YtfaabbimbjegmaaDoor.KB

/-
  Layer 1: the reference's Get computes the plain function.
-/
import Derived.Test.YtojelhacelfjkaaKeysGetF
set_option linter.unusedVariables false
namespace Go.Proofs.Ytojelhacelfjkaa.KB
open Go.RowKit Go.Proofs.Ytojelhacelfjkaa.PA Go.Proofs.Ytojelhacelfjkaa.BB Go.Proofs.YtojelhacelfjkaaW.PrintWords Go.Proofs.YtojelhacelfjkaaW.PrintLast Go.Proofs.YtojelhacelfjkaaW.PrintMore

theorem B_snoc (acc : List UInt8) (a : ByteArray) (p : Nat) (hp : p < a.size) : B acc ++ a.extract p (p + 1) = B (acc ++ [a[p]]) := by
  apply ext
  rw [dataAppend, B_L, B_L, extract_one a p hp]
theorem B_zero (acc : List UInt8) : B acc ++ (⟨#[0]⟩ : ByteArray) = B (acc ++ [0]) := by
  apply ext
  rw [dataAppend, B_L, B_L]
theorem B_nil : B [] = ⟨#[]⟩ := by
  apply ext
  rw [B_L]

theorem step_num (x b : Nat) (hx : x < 36028797018963968) (hb : b < 256) : wrap64 (wrap64 (256 * (x : Int)) + wrap64 (b : Int)) = ((x * 256 + b : Nat) : Int) := by
  have w1 : wrap64 (256 * (x : Int)) = 256 * (x : Int) := wrap_id (by omega)
  have w2 : wrap64 (b : Int) = (b : Int) := wrap_id (by omega)
  rw [w1, w2, wrap_id (by omega)]
  omega
theorem wrap_one {i : Nat} (h : i < 9223372036854775806) : wrap64 ((i : Int) + 1) = ((i + 1 : Nat) : Int) := by unfold wrap64; omega
theorem wrap_two {i : Nat} (h : i < 9223372036854775806) : wrap64 ((i : Int) + 2) = ((i + 1 + 1 : Nat) : Int) := by unfold wrap64; omega

theorem refText (a : ByteArray) (ha : a.size < 1000000) (x4 : List S40) (hx4 : x4.length < 1000000) (R : List S40 × Int) (n : Nat) : ∀ l acc p, l.length ≤ n → a.data.toList.drop p = l → p ≤ a.size → acc.length ≤ p →
    ((txt acc l).2.2 = 0 → Ev (fun k => concordanceref01_Get.l0 k a (x4 ++ [(⟨B (txt acc l).1, 0, true⟩ : S40)]) ((a.size - (txt acc l).2.1.length : Nat) : Int)) R) → ((txt acc l).2.2 ≠ 0 → R = ([], (txt acc l).2.2)) →
    Ev (fun k => concordanceref01_Get.l2 k a x4 (p : Int) false (B acc) 0 true) R := by
  have three : ∀ (acc : List UInt8) (p : Int), Ev (fun k => concordanceref01_Get.j3 k a x4 p false true (B acc) 0 true) ([], 3) := by
    intro acc p
    refine ⟨1, fun k hk => ?_⟩
    obtain ⟨K, rfl⟩ : ∃ K, k = K + 1 := ⟨k - 1, by omega⟩
    simp only [concordanceref01_Get.j3]
    rw [if_pos trivial]
  have atEnd : ∀ acc : List UInt8, Ev (fun k => concordanceref01_Get.l2 k a x4 (a.size : Int) false (B acc) 0 true) ([], 3) := by
    intro acc
    refine Ev.step (fun k => ?_) (three acc (a.size : Int))
    simp only [concordanceref01_Get.l2]
    rw [if_neg (by decide), if_pos (by omega)]
  induction n with
  | zero =>
    intro l acc p hl hd hp hacc h1 h2
    have : l = [] := List.eq_nil_of_length_eq_zero (by omega)
    subst this
    have := drop_nil a p hp hd
    subst this
    rw [h2 (by simp [txt])]
    exact atEnd acc
  | succ n ih =>
    intro l acc p hl hd hp hacc h1 h2
    match l, hl, hd, h1, h2 with
    | [], _, hd, h1, h2 =>
      have := drop_nil a p hp hd
      subst this
      rw [h2 (by simp [txt])]
      exact atEnd acc
    | x :: l', hl, hd, h1, h2 =>
      obtain ⟨hlt, hx, hd', hsz⟩ := drop_facts a p x l' hd
      have hbt : bt a (p : Int) = ((x.toNat : Nat) : Int) := by rw [btL a p hlt, hx]
      have si : p < 9223372036854775806 := by omega
      by_cases hx0 : x = 0
      · have hz : ((x.toNat : Nat) : Int) = 0 := by rw [hx0]; rfl
        match l', hl, hd', hsz, hd, h1, h2 with
        | [], hl, hd', hsz, hd, h1, h2 =>
          rw [h2 (by simp [txt])]
          refine Ev.step (fun k => ?_) (three acc (p : Int))
          simp only [concordanceref01_Get.l2]
          rw [if_neg (by decide), if_neg (by omega), if_pos (by omega), if_pos (by omega), hbt, if_pos hz, wrap_one si, decide_eq_true (show ((p + 1 : Nat) : Int) ≥ (a.size : Int) by rw [hsz]; simp)]
        | y :: m, hl, hd', hsz, hd, h1, h2 =>
          obtain ⟨hlt2, hy, hd2, hsz2⟩ := drop_facts a (p + 1) y m hd'
          have hbt2 : bt a ((p + 1 : Nat) : Int) = ((y.toNat : Nat) : Int) := by rw [btL a (p + 1) hlt2, hy]
          have go : ∀ R', Ev (fun k => concordanceref01_Get.j3 k a x4 (p : Int) false false (B acc) 0 true) R' → Ev (fun k => concordanceref01_Get.l2 k a x4 (p : Int) false (B acc) 0 true) R' := by
            intro R' hR'
            refine Ev.step (fun k => ?_) hR'
            simp only [concordanceref01_Get.l2]
            rw [if_neg (by decide), if_neg (by omega), if_pos (by omega), if_pos (by omega), hbt, if_pos hz, wrap_one si, decide_eq_false (show ¬ ((p + 1 : Nat) : Int) ≥ (a.size : Int) by omega)]
          by_cases hy255 : y = 255
          · have e : txt acc (x :: y :: m) = txt (acc ++ [0]) m := by simp only [txt]; rw [if_neg (by simp [hx0]), if_pos hy255]
            rw [e] at h1 h2
            have q := ih m (acc ++ [0]) (p + 1 + 1) (by simp only [List.length_cons] at hl; omega) hd2 (by omega) (by rw [List.length_append, List.length_cons, List.length_nil]; omega) h1 h2
            apply go
            refine Ev.step (fun k => ?_) q
            simp only [concordanceref01_Get.j3]
            rw [if_neg (by decide), if_pos (by omega), if_pos (by omega), hbt, if_pos hz, wrap_one si, if_pos (by omega), if_pos (by omega), hbt2, if_pos (by rw [hy255]; rfl), if_pos (by rw [B_size]; omega), wrap_two si, B_zero]
          · have hyn : ¬ ((y.toNat : Nat) : Int) = 255 := fun h => hy255 (UInt8.toNat_inj.mp (show y.toNat = 255 by omega))
            by_cases hy1 : y = 1
            · have dn : Ev (fun k => concordanceref01_Get.l2 k a x4 ((p + 1 + 1 : Nat) : Int) true (B acc) 0 true) R := by
                by_cases h20 : 20 < acc.length
                · have e : txt acc (x :: y :: m) = ([], [], 6) := by simp only [txt]; rw [if_neg (by simp [hx0]), if_neg hy255, if_pos hy1, if_pos h20]
                  rw [e] at h2
                  rw [h2 (by decide)]
                  refine ⟨1, fun k hk => ?_⟩
                  obtain ⟨K, rfl⟩ : ∃ K, k = K + 1 := ⟨k - 1, by omega⟩
                  simp only [concordanceref01_Get.l2]
                  rw [if_pos trivial, B_size, if_pos (by omega)]
                · have e : txt acc (x :: y :: m) = (acc, m, 0) := by simp only [txt]; rw [if_neg (by simp [hx0]), if_neg hy255, if_pos hy1, if_neg h20]
                  rw [e] at h1
                  have q := h1 rfl
                  simp only at q
                  rw [show a.size - m.length = p + 1 + 1 by omega] at q
                  refine Ev.step (fun k => ?_) q
                  simp only [concordanceref01_Get.l2]
                  rw [if_pos trivial, B_size, if_neg (by omega), if_pos (by omega)]
              apply go
              refine Ev.step (fun k => ?_) dn
              simp only [concordanceref01_Get.j3]
              rw [if_neg (by decide), if_pos (by omega), if_pos (by omega), hbt, if_pos hz, wrap_one si, if_pos (by omega), if_pos (by omega), hbt2, if_neg hyn, if_pos (by rw [hy1]; rfl), wrap_two si]
            · have hyn1 : ¬ ((y.toNat : Nat) : Int) = 1 := fun h => hy1 (UInt8.toNat_inj.mp (show y.toNat = 1 by omega))
              have e : txt acc (x :: y :: m) = ([], [], 2) := by simp only [txt]; rw [if_neg (by simp [hx0]), if_neg hy255, if_neg hy1]
              rw [e] at h2
              rw [h2 (by decide)]
              apply go
              refine ⟨1, fun k hk => ?_⟩
              obtain ⟨K, rfl⟩ : ∃ K, k = K + 1 := ⟨k - 1, by omega⟩
              simp only [concordanceref01_Get.j3]
              rw [if_neg (by decide), if_pos (by omega), if_pos (by omega), hbt, if_pos hz, wrap_one si, if_pos (by omega), if_pos (by omega), hbt2, if_neg hyn, if_neg hyn1]
      · have hz : ¬ ((x.toNat : Nat) : Int) = 0 := fun h => hx0 (UInt8.toNat_inj.mp (show x.toNat = 0 by omega))
        have e : txt acc (x :: l') = txt (acc ++ [x]) l' := by
          match l' with
          | [] => rfl
          | y :: m => simp only [txt]; rw [if_pos hx0]
        rw [e] at h1 h2
        have q := ih l' (acc ++ [x]) (p + 1) (by simp only [List.length_cons] at hl; omega) hd' (by omega) (by rw [List.length_append, List.length_cons, List.length_nil]; omega) h1 h2
        have hes : (a.extract p (p + 1)).size = 1 := by rw [← sizeL, extract_one a p hlt]; rfl
        have q2 : Ev (fun k => concordanceref01_Get.j3 k a x4 (p : Int) false false (B acc) 0 true) R := by
          refine Ev.step (fun k => ?_) q
          simp only [concordanceref01_Get.j3]
          rw [if_neg (by decide), if_pos (by omega), if_pos (by omega), hbt, if_neg hz, wrap_one si, if_pos (by omega), if_pos (by omega), Int.toNat_natCast, Int.toNat_natCast, if_pos (by rw [B_size, hes]; omega), B_snoc acc a p hlt, hx]
        refine Ev.step (fun k => ?_) q2
        simp only [concordanceref01_Get.l2]
        rw [if_neg (by decide), if_neg (by omega), if_pos (by omega), if_pos (by omega), hbt, if_neg hz]

theorem refNumber (a : ByteArray) (ha : a.size < 1000000) (x4 : List S40) (hx4 : x4.length < 1000000) (p : Nat) (l : List UInt8) (hd : a.data.toList.drop (p + 1) = l) (h6 : 6 ≤ l.length) (hp : p < a.size) (R : List S40 × Int)
    (h1 : ¬ 2199023255552 < num (l.take 6) → Ev (fun k => concordanceref01_Get.l0 k a (x4 ++ [(⟨⟨#[]⟩, (num (l.take 6) : Int) - 1099511627776, false⟩ : S40)]) ((p + 7 : Nat) : Int)) R) (h2 : 2199023255552 < num (l.take 6) → R = ([], 2)) (d : Nat) : ∀ i, i + d = 6 →
    Ev (fun k => concordanceref01_Get.l1 k a x4 (p : Int) ((num (l.take i) : Nat) : Int) ((i + 1 : Nat) : Int) ⟨#[]⟩ 0 false) R := by
  have hsz : a.size = p + 1 + l.length := by
    have := congrArg List.length hd
    rw [List.length_drop, sizeL] at this
    omega
  induction d with
  | zero =>
    intro i hi
    obtain rfl : i = 6 := by omega
    have hn := num_take_lt l 6 (by omega)
    have hw : wrap64 ((p : Int) + 7) = ((p + 7 : Nat) : Int) := by unfold wrap64; omega
    by_cases h : 2199023255552 < num (l.take 6)
    · rw [h2 h]
      refine ⟨1, fun k hk => ?_⟩
      obtain ⟨K, rfl⟩ : ∃ K, k = K + 1 := ⟨k - 1, by omega⟩
      simp only [concordanceref01_Get.l1]
      rw [if_neg (by omega), if_pos (by omega)]
    · refine Ev.step (fun k => ?_) (h1 h)
      simp only [concordanceref01_Get.l1]
      rw [if_neg (by omega), if_neg (by omega), if_pos (by omega), hw, wrap_id (i := (num (l.take 6) : Int) - 1099511627776) ⟨by omega, by omega⟩]
  | succ d ih =>
    intro i hi
    have e := ih (i + 1) (by omega)
    have hil : i < l.length := by omega
    have hlt : p + (i + 1) < a.size := by omega
    have hx := num_take_lt l i (by omega)
    have ht : l.take (i + 1) = l.take i ++ [l[i]] := List.take_succ_eq_append_getElem hil
    have hget : (a[p + (i + 1)]'hlt) = l[i] := by
      have h1 : (a.data.toList.drop (p + 1))[i]? = l[i]? := by rw [hd]
      rw [List.getElem?_drop, List.getElem?_eq_getElem hil, show p + 1 + i = p + (i + 1) by omega] at h1
      rw [List.getElem?_eq_getElem (by rw [sizeL]; exact hlt)] at h1
      exact Option.some.inj h1
    have hw1 : wrap64 ((p : Int) + ((i + 1 : Nat) : Int)) = ((p + (i + 1) : Nat) : Int) := by unfold wrap64; omega
    have hb := UInt8.toNat_lt l[i]
    have hv := step_num (num (l.take i)) l[i].toNat hx hb
    rw [ht, num_snoc] at e
    refine Ev.step (fun k => ?_) e
    simp only [concordanceref01_Get.l1]
    rw [if_pos (by omega), hw1, if_pos (by omega), if_pos (by omega), btL a (p + (i + 1)) hlt, hget, hv, wrap_succ (by omega)]

def gres40 (x4 : List S40) (r : List PV × Int) : List S40 × Int := if r.2 = 0 then (x4 ++ r.1.map s40, 0) else ([], r.2)

theorem gres40_cons (x4 : List S40) (v : PV) (n : Nat) (l : List UInt8) (hne : l ≠ []) (h1 : (one l).1 = 0) (hv : (one l).2.1 = v) : gres40 x4 (getP (n + 1) l) = gres40 (x4 ++ [s40 v]) (getP n (one l).2.2) := by
  simp only [getP]
  rw [if_neg hne, if_pos h1, hv]
  generalize getP n (one l).2.2 = r
  unfold gres40
  by_cases h : r.2 = 0
  · simp [h]
  · simp [h]

theorem refGet_l0 (a : ByteArray) (ha : a.size < 900000) (n : Nat) : ∀ (p : Nat) (x4 : List S40), p ≤ a.size → a.size - p < n → x4.length ≤ p →
    Ev (fun k => concordanceref01_Get.l0 k a x4 (p : Int)) (gres40 x4 (getP n (a.data.toList.drop p))) := by
  induction n with
  | zero => intro p x4 _ h; omega
  | succ n ih =>
    intro p x4 hp hn hx4
    cases hxl : a.data.toList.drop p with
    | nil =>
      have := drop_nil a p hp hxl
      subst this
      refine ⟨1, fun k hk => ?_⟩
      obtain ⟨K, rfl⟩ : ∃ K, k = K + 1 := ⟨k - 1, by omega⟩
      simp only [concordanceref01_Get.l0]
      rw [if_neg (by omega)]
      simp [gres40, getP]
    | cons x l =>
      obtain ⟨h0, hx, hd, hsz⟩ := drop_facts a p x l hxl
      have hbt : bt a (p : Int) = ((x.toNat : Nat) : Int) := by rw [btL a p h0, hx]
      have fail : ∀ e : Int, (one (x :: l)).1 = e → e ≠ 0 → gres40 x4 (getP (n + 1) (x :: l)) = ([], e) := by
        intro e he hne
        simp only [getP]
        rw [if_neg (by simp), if_neg (by rw [he]; exact hne), he]
        unfold gres40
        rw [if_neg hne]
      by_cases h16 : x = 16
      · have hx16 : ((x.toNat : Nat) : Int) = 16 := by rw [h16]; rfl
        by_cases hl : l.length < 6
        · have e : one (x :: l) = (3, none0, []) := by simp only [one]; rw [if_pos h16, if_pos hl]
          rw [fail 3 (by rw [e]) (by decide)]
          refine ⟨1, fun k hk => ?_⟩
          obtain ⟨K, rfl⟩ : ∃ K, k = K + 1 := ⟨k - 1, by omega⟩
          simp only [concordanceref01_Get.l0]
          rw [if_pos (by omega), if_pos (by omega), hbt, if_pos hx16, if_pos (by unfold wrap64; omega)]
        · have q := refNumber a (by omega) x4 (by omega) p l hd (by omega) h0 (gres40 x4 (getP (n + 1) (x :: l))) (fun hn3 => by
            have e : one (x :: l) = (0, ⟨[], (num (l.take 6) : Int) - 1099511627776, false⟩, l.drop 6) := by simp only [one]; rw [if_pos h16, if_neg hl, if_neg hn3]
            have q := ih (p + 7) (x4 ++ [s40 ⟨[], (num (l.take 6) : Int) - 1099511627776, false⟩]) (by omega) (by omega) (by rw [List.length_append, List.length_cons, List.length_nil]; omega)
            rw [gres40_cons x4 _ n (x :: l) (by simp) (by rw [e]) (by rw [e]), e]
            simp only
            have hdd : a.data.toList.drop (p + 7) = l.drop 6 := by rw [← hd, List.drop_drop]
            rw [hdd] at q
            unfold s40 at q ⊢
            rw [B_nil] at q ⊢
            exact q) (fun hn3 => by
            have e : one (x :: l) = (2, none0, []) := by simp only [one]; rw [if_pos h16, if_neg hl, if_pos hn3]
            exact fail 2 (by rw [e]) (by decide)) 6 0 (by omega)
          refine Ev.step (fun k => ?_) q
          simp only [concordanceref01_Get.l0]
          rw [if_pos (by omega), if_pos (by omega), hbt, if_pos hx16, if_neg (by unfold wrap64; omega)]
          rfl
      · have hx16 : ¬ ((x.toNat : Nat) : Int) = 16 := fun h => h16 (UInt8.toNat_inj.mp (show x.toNat = 16 by omega))
        by_cases h32 : x = 32
        · have hx32 : ((x.toNat : Nat) : Int) = 32 := by rw [h32]; rfl
          have q := refText a (by omega) x4 (by omega) (gres40 x4 (getP (n + 1) (x :: l))) l.length l [] (p + 1) (Nat.le_refl _) hd (by omega) (by simp) (fun ht => by
            have e : one (x :: l) = (0, ⟨(txt [] l).1, 0, true⟩, (txt [] l).2.1) := by simp only [one]; rw [if_neg h16, if_pos h32, if_pos ht]
            obtain ⟨t, t1, t2, t3⟩ := txt_back l.length l [] (Nat.le_refl _) ht
            have hml : l.length = (esc t).length + 2 + (txt [] l).2.1.length := by
              have := congrArg List.length t2
              rw [List.length_append, List.length_cons, List.length_cons] at this
              omega
            have q := ih (a.size - (txt [] l).2.1.length) (x4 ++ [s40 ⟨(txt [] l).1, 0, true⟩]) (by omega) (by omega) (by rw [List.length_append, List.length_cons, List.length_nil]; omega)
            rw [gres40_cons x4 _ n (x :: l) (by simp) (by rw [e]) (by rw [e]), e]
            simp only
            have hdd : a.data.toList.drop (a.size - (txt [] l).2.1.length) = (txt [] l).2.1 := by
              have h3 : l.drop (l.length - (txt [] l).2.1.length) = (txt [] l).2.1 := by
                have gen : ∀ M : List UInt8, l = esc t ++ 0 :: 1 :: M → l.drop (l.length - M.length) = M := by
                  intro M hM
                  have hh : esc t ++ 0 :: 1 :: M = (esc t ++ [0, 1]) ++ M := by simp
                  have hlen : (esc t ++ [0, 1] ++ M : List UInt8).length - M.length = (esc t ++ [0, 1] : List UInt8).length := by rw [List.length_append]; omega
                  rw [hM, hh, hlen, List.drop_left]
                exact gen _ t2
              rw [← hd, List.drop_drop] at h3
              rw [hd] at h3
              refine Eq.trans ?_ h3
              congr 1
              omega
            rw [hdd] at q
            exact q) (fun ht => by
            have e : one (x :: l) = ((txt [] l).2.2, none0, []) := by simp only [one]; rw [if_neg h16, if_pos h32, if_neg ht]
            exact fail (txt [] l).2.2 (by rw [e]) ht)
          rw [B_nil] at q
          refine Ev.step (fun k => ?_) q
          simp only [concordanceref01_Get.l0]
          rw [if_pos (by omega), if_pos (by omega), hbt, if_neg hx16, if_pos hx32, wrap_succ (by omega)]
        · have hx32 : ¬ ((x.toNat : Nat) : Int) = 32 := fun h => h32 (UInt8.toNat_inj.mp (show x.toNat = 32 by omega))
          have e : one (x :: l) = (2, none0, []) := by simp only [one]; rw [if_neg h16, if_neg h32]
          rw [fail 2 (by rw [e]) (by decide)]
          refine ⟨1, fun k hk => ?_⟩
          obtain ⟨K, rfl⟩ : ∃ K, k = K + 1 := ⟨k - 1, by omega⟩
          simp only [concordanceref01_Get.l0]
          rw [if_pos (by omega), if_pos (by omega), hbt, if_neg hx16, if_neg hx32]

theorem refGetF (a : ByteArray) (ha : a.size < 900000) : Ev (fun k => concordanceref01_Get.f k a) (gres40 [] (getL a.data.toList)) := by
  have h := refGet_l0 a ha (a.size + 1) 0 [] (by omega) (by omega) (by simp)
  rw [List.drop_zero] at h
  unfold getL
  rw [sizeL]
  exact h

end Go.Proofs.Ytojelhacelfjkaa.KB

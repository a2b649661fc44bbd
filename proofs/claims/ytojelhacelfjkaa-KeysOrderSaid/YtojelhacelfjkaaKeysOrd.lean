/-
  Layer 1: keys are ordered as their values are; and that the printed functions compute just that.
-/
import Derived.Test.YtojelhacelfjkaaKeysBoth
import Derived.Test.YtojelhacelfjkaaKeysCmp
import Derived.Test.YtojelhacelfjkaaPAx5s5
import Derived.Test.YtojelhacelfjkaaPAx11s2
import Derived.Test.YtojelhacelfjkaaPAx12
set_option linter.unusedVariables false
namespace Go.Proofs.Ytojelhacelfjkaa.KB
open Go.RowKit Go.Proofs.Ytojelhacelfjkaa.PA Go.Proofs.Ytojelhacelfjkaa.BB Go.Proofs.YtojelhacelfjkaaW.PrintWords Go.Proofs.YtojelhacelfjkaaW.PrintLast Go.Proofs.YtojelhacelfjkaaW.PrintMore

def cmpN (m n : Int) : Int := if m < n then -1 else if m > n then 1 else 0
/-- The order of values. -/
def cmpV (v w : PV) : Int := if v.b = true then (if w.b = true then Lib.compareBytes v.t w.t else 1) else (if w.b = true then -1 else cmpN v.n w.n)
def cmpL : List PV → List PV → Int
  | [], [] => 0
  | [], _ :: _ => -1
  | _ :: _, [] => 1
  | v :: vs, w :: ws => if cmpV v w = 0 then cmpL vs ws else cmpV v w

theorem cb_lt {x y : UInt8} (h : x < y) (l m : List UInt8) : Lib.compareBytes (x :: l) (y :: m) = -1 := by simp only [Lib.compareBytes]; rw [if_pos h]
theorem cb_gt {x y : UInt8} (h : y < x) (l m : List UInt8) : Lib.compareBytes (x :: l) (y :: m) = 1 := by
  simp only [Lib.compareBytes]
  have : ¬ x < y := by rw [UInt8.lt_iff_toNat_lt] at h ⊢; omega
  rw [if_neg this, if_pos h]
theorem u_pos {x : UInt8} (h : x ≠ 0) : 0 < x := by
  rw [UInt8.lt_iff_toNat_lt]
  have h1 : x.toNat ≠ 0 := fun e => h (UInt8.toNat_inj.mp e)
  have : (0 : UInt8).toNat = 0 := rfl
  omega
theorem esc_cons {x : UInt8} (h : x ≠ 0) (l : List UInt8) : esc (x :: l) = x :: esc l := by simp only [esc, if_neg h]
theorem esc_zero (l : List UInt8) : esc (0 :: l) = 0 :: 255 :: esc l := by simp only [esc, if_true]

theorem cb_esc (t : List UInt8) : ∀ u r r', Lib.compareBytes (esc t ++ 0 :: 1 :: r) (esc u ++ 0 :: 1 :: r') = if Lib.compareBytes t u = 0 then Lib.compareBytes r r' else Lib.compareBytes t u := by
  induction t with
  | nil =>
    intro u r r'
    cases u with
    | nil =>
      have e : Lib.compareBytes [] [] = 0 := rfl
      rw [e, if_pos rfl]
      simp only [esc, List.nil_append, cb_cons]
    | cons y u =>
      have e : Lib.compareBytes [] (y :: u) = -1 := rfl
      rw [e, if_neg (by decide)]
      by_cases hy : y = 0
      · subst hy
        rw [esc_zero]
        simp only [esc, List.nil_append, List.cons_append, cb_cons]
        exact cb_lt (by decide) _ _
      · rw [esc_cons hy]
        simp only [esc, List.nil_append, List.cons_append]
        exact cb_lt (u_pos hy) _ _
  | cons x t ih =>
    intro u r r'
    cases u with
    | nil =>
      have e : Lib.compareBytes (x :: t) [] = 1 := rfl
      rw [e, if_neg (by decide)]
      by_cases hx : x = 0
      · subst hx
        rw [esc_zero]
        simp only [esc, List.nil_append, List.cons_append, cb_cons]
        exact cb_gt (by decide) _ _
      · rw [esc_cons hx]
        simp only [esc, List.nil_append, List.cons_append]
        exact cb_gt (u_pos hx) _ _
    | cons y u =>
      by_cases h1 : x < y
      · rw [cb_lt h1, if_neg (by decide)]
        by_cases hx : x = 0
        · subst hx
          have hy : y ≠ 0 := fun e => by subst e; exact u_irr _ h1
          rw [esc_zero, esc_cons hy]
          exact cb_lt h1 _ _
        · have hy : y ≠ 0 := fun e => by subst e; rw [UInt8.lt_iff_toNat_lt] at h1; exact absurd h1 (Nat.not_lt_zero _)
          rw [esc_cons hx, esc_cons hy]
          exact cb_lt h1 _ _
      · by_cases h2 : y < x
        · rw [cb_gt h2, if_neg (by decide)]
          have hx : x ≠ 0 := fun e => by subst e; rw [UInt8.lt_iff_toNat_lt] at h2; exact absurd h2 (Nat.not_lt_zero _)
          by_cases hy : y = 0
          · subst hy
            rw [esc_zero, esc_cons hx]
            exact cb_gt h2 _ _
          · rw [esc_cons hx, esc_cons hy]
            exact cb_gt h2 _ _
        · obtain rfl := u_eq h1 h2
          rw [cb_cons]
          by_cases hx : x = 0
          · subst hx
            rw [esc_zero, esc_zero]
            simp only [List.cons_append, cb_cons]
            exact ih u r r'
          · rw [esc_cons hx, esc_cons hx]
            simp only [List.cons_append, cb_cons]
            exact ih u r r'

theorem cb_byte (a b : Nat) (ha : a < 256) (hb : b < 256) (r r' : List UInt8) : Lib.compareBytes (UInt8.ofNat a :: r) (UInt8.ofNat b :: r') = if a < b then -1 else if b < a then 1 else Lib.compareBytes r r' := by
  have ea : (UInt8.ofNat a).toNat = a := by rw [UInt8.toNat_ofNat']; exact Nat.mod_eq_of_lt ha
  have eb : (UInt8.ofNat b).toNat = b := by rw [UInt8.toNat_ofNat']; exact Nat.mod_eq_of_lt hb
  simp only [Lib.compareBytes, UInt8.lt_iff_toNat_lt, ea, eb]

theorem cb_be (s : Nat) : ∀ m n r r', m < 256 ^ s → n < 256 ^ s → Lib.compareBytes (be m s ++ r) (be n s ++ r') = if m < n then -1 else if n < m then 1 else Lib.compareBytes r r' := by
  induction s with
  | zero =>
    intro m n r r' hm hn
    rw [Nat.pow_zero] at hm hn
    rw [if_neg (by omega), if_neg (by omega)]
    rfl
  | succ s ih =>
    intro m n r r' hm hn
    rw [Nat.pow_succ] at hm hn
    have hm' : m / 256 < 256 ^ s := Nat.div_lt_of_lt_mul (by rw [Nat.mul_comm]; exact hm)
    have hn' : n / 256 < 256 ^ s := Nat.div_lt_of_lt_mul (by rw [Nat.mul_comm]; exact hn)
    simp only [be, List.append_assoc, List.cons_append, List.nil_append]
    rw [ih _ _ _ _ hm' hn', cb_byte _ _ (Nat.mod_lt _ (by decide)) (Nat.mod_lt _ (by decide))]
    clear ih hm hn hm' hn'
    by_cases c1 : m / 256 < n / 256
    · rw [if_pos c1, if_pos (by omega)]
    · rw [if_neg c1]
      by_cases c2 : n / 256 < m / 256
      · rw [if_pos c2, if_neg (by omega), if_pos (by omega)]
      · rw [if_neg c2]
        by_cases c3 : m % 256 < n % 256
        · rw [if_pos c3, if_pos (by omega)]
        · rw [if_neg c3]
          by_cases c4 : n % 256 < m % 256
          · rw [if_pos c4, if_neg (by omega), if_pos (by omega)]
          · rw [if_neg c4, if_neg (by omega), if_neg (by omega)]

theorem cb_enc {v w : PV} (hv : okV v = 0) (hw : okV w = 0) (r r' : List UInt8) : Lib.compareBytes (enc v ++ r) (enc w ++ r') = if cmpV v w = 0 then Lib.compareBytes r r' else cmpV v w := by
  obtain ⟨v1, v2, v3, v4⟩ := okV_zero hv
  obtain ⟨w1, w2, w3, w4⟩ := okV_zero hw
  unfold enc cmpV
  cases hb : v.b with
  | true =>
    cases hc : w.b with
    | true =>
      simp only [if_true, List.cons_append, cb_cons, List.append_assoc, List.nil_append]
      exact cb_esc _ _ _ _
    | false =>
      simp only [if_true, List.cons_append, Bool.false_eq_true, if_false]
      rw [if_neg (by decide)]
      exact cb_gt (by decide) _ _
  | false =>
    cases hc : w.b with
    | true =>
      simp only [if_true, List.cons_append, Bool.false_eq_true, if_false]
      rw [if_neg (by decide)]
      exact cb_lt (by decide) _ _
    | false =>
      simp only [Bool.false_eq_true, if_false, List.cons_append, cb_cons]
      rw [cb_be 6 _ _ _ _ (by omega) (by omega)]
      unfold cmpN
      by_cases c1 : v.n < w.n
      · rw [if_pos (by omega), if_pos c1, if_neg (by decide)]
      · rw [if_neg (by omega), if_neg c1]
        by_cases c2 : v.n > w.n
        · rw [if_pos (by omega), if_pos c2, if_neg (by decide)]
        · rw [if_neg (by omega), if_neg c2, if_pos rfl]

theorem putP_cons {v : PV} {vs : List PV} (h : (putP (v :: vs)).2 = 0) : okV v = 0 ∧ (putP vs).2 = 0 ∧ (putP (v :: vs)).1 = enc v ++ (putP vs).1 := by
  simp only [putP] at h ⊢
  by_cases h1 : okV v = 0
  · by_cases h2 : (putP vs).2 = 0
    · exact ⟨h1, h2, by rw [if_pos h1, if_pos h2]⟩
    · rw [if_pos h1, if_neg h2] at h
      exact absurd h h2
  · rw [if_neg h1] at h
    exact absurd h h1

theorem cb_put (vs : List PV) : ∀ ws, (putP vs).2 = 0 → (putP ws).2 = 0 → Lib.compareBytes (putP vs).1 (putP ws).1 = cmpL vs ws := by
  induction vs with
  | nil =>
    intro ws h1 h2
    cases ws with
    | nil => rfl
    | cons w ws =>
      obtain ⟨_, _, e⟩ := putP_cons h2
      rw [e]
      have := enc_pos w
      cases he : enc w with
      | nil => rw [he] at this; simp at this
      | cons c l => rfl
  | cons v vs ih =>
    intro ws h1 h2
    obtain ⟨a1, a2, a3⟩ := putP_cons h1
    cases ws with
    | nil =>
      rw [a3]
      have := enc_pos v
      cases he : enc v with
      | nil => rw [he] at this; simp at this
      | cons c l => rfl
    | cons w ws =>
      obtain ⟨b1, b2, b3⟩ := putP_cons h2
      rw [a3, b3, cb_enc a1 b1, ih ws a2 b2]
      rfl

theorem compare_f (v w : PV) : Ev (fun k => keys_Compare.f k (s36 v).f0 (s36 v).f1 (s36 v).f2 (s36 w).f0 (s36 w).f1 (s36 w).f2) (cmpV v w) := by
  refine ⟨1, fun k hk => ?_⟩
  obtain ⟨K, rfl⟩ : ∃ K, k = K + 1 := ⟨k - 1, by omega⟩
  show keys_Compare.f (K + 1) (B v.t) v.n v.b (B w.t) w.n w.b = _
  unfold keys_Compare.f cmpV cmpN
  cases v.b <;> cases w.b <;> simp only [keys_Compare.j0, strings_Compare.f, cmp_Compare_int.f, cmp_isNaN_int.f, Option.bind_some, Bool.false_eq_true, if_false, if_true, B_L, bne_self_eq_false]
  by_cases c1 : v.n < w.n
  · simp only [if_pos c1, Option.bind_some]
  · simp only [if_neg c1]
    by_cases c2 : v.n > w.n
    · simp only [if_pos c2, Option.bind_some]
    · simp only [if_neg c2, Option.bind_some]

theorem refCompare_f (v w : PV) (hv : v.t.length < 1000) : Ev (fun k => concordanceref01_Compare.f k (s40 v).f0 (s40 v).f1 (s40 v).f2 (s40 w).f0 (s40 w).f1 (s40 w).f2) (cmpV v w) := by
  have e := refBytes_f (B v.t) (B w.t) (by rw [B_size]; omega)
  rw [B_L, B_L] at e
  show Ev (fun k => concordanceref01_Compare.f k (B v.t) v.n v.b (B w.t) w.n w.b) _
  unfold concordanceref01_Compare.f cmpV cmpN
  cases v.b <;> cases w.b
  · by_cases c1 : v.n < w.n
    · simp only [bne_self_eq_false, Bool.false_eq_true, if_false, if_pos c1]
      exact Ev.now _
    · by_cases c2 : v.n > w.n
      · simp only [bne_self_eq_false, Bool.false_eq_true, if_false, if_neg c1, if_pos c2]
        exact Ev.now _
      · simp only [bne_self_eq_false, Bool.false_eq_true, if_false, if_neg c1, if_neg c2]
        exact Ev.now _
  · exact Ev.now _
  · exact Ev.now _
  · simp only [bne_self_eq_false, Bool.false_eq_true, if_false, if_true]
    exact Ev.bind e (Ev.now _)

theorem cut_short {l : List S52} {v : PV} (h : v ∈ cuts l) : v.t.length < 1000 := by
  unfold cuts at h
  rw [List.mem_map] at h
  obtain ⟨x, _, rfl⟩ := h
  show (x.f0.data.toList.take 50).length < 1000
  rw [List.length_take]
  omega

theorem refLists_l0 (vs ws : List PV) (hs : ∀ v ∈ vs, v.t.length < 1000) (hv : vs.length ≤ 10) (hw : ws.length ≤ 10) (d : Nat) : ∀ i, i + d = vs.length → i ≤ ws.length →
    Ev (fun k => concordanceref01_Lists.l0 k (vs.map s40) (ws.map s40) (i : Int)) (cmpL (vs.drop i) (ws.drop i)) := by
  have l1 : (vs.map s40).length = vs.length := List.length_map _
  have l2 : (ws.map s40).length = ws.length := List.length_map _
  induction d with
  | zero =>
    intro i hi hb
    rw [List.drop_of_length_le (show vs.length ≤ i by omega)]
    refine ⟨2, fun k hk => ?_⟩
    obtain ⟨K, rfl⟩ : ∃ K, k = K + 1 + 1 := ⟨k - 2, by omega⟩
    show concordanceref01_Lists.l0 (K + 1 + 1) _ _ (i : Int) = _
    rw [concordanceref01_Lists.l0, if_neg (by rw [l1]; omega), concordanceref01_Lists.j1, if_neg (by decide), l1, l2]
    by_cases h : i < ws.length
    · rw [if_pos (by omega), List.drop_eq_getElem_cons h]; rfl
    · rw [if_neg (by omega), if_neg (by omega), List.drop_of_length_le (show ws.length ≤ i by omega)]; rfl
  | succ d ih =>
    intro i hi hb
    have h1 : i < vs.length := by omega
    rw [List.drop_eq_getElem_cons h1]
    by_cases h : i < ws.length
    · have e := ih (i + 1) (by omega) (by omega)
      rw [List.drop_eq_getElem_cons h]
      have hc := refCompare_f vs[i] ws[i] (hs _ (List.getElem_mem h1))
      refine Ev.step (f := fun k => concordanceref01_Lists.j1 k (vs.map s40) (ws.map s40) (i : Int) true) (fun k => ?_) (Ev.step (fun k => ?_) (Ev.bind hc (f := fun k t256 => if t256 = 0 then (concordanceref01_Lists.l0 k (vs.map s40) (ws.map s40) ((i + 1 : Nat) : Int)) else (some t256)) ?_))
      · rw [concordanceref01_Lists.l0, if_pos (by rw [l1]; omega), decide_eq_true (show (i : Int) < ((ws.map s40).length : Int) by rw [l2]; omega)]
      · rw [concordanceref01_Lists.j1, if_pos rfl, if_pos (by omega), if_pos (by rw [l1]; omega), if_pos (by rw [l2]; omega), rd40 _ i (by rw [l1]; omega), rd40 _ i (by rw [l2]; omega), List.getElem_map, List.getElem_map, wrap_succ (by omega)]
      · show Ev _ (if cmpV vs[i] ws[i] = 0 then cmpL (vs.drop (i + 1)) (ws.drop (i + 1)) else cmpV vs[i] ws[i])
        by_cases c : cmpV vs[i] ws[i] = 0
        · simp only [if_pos c]
          exact e
        · simp only [if_neg c]
          exact Ev.now _
    · rw [List.drop_of_length_le (show ws.length ≤ i by omega)]
      refine ⟨2, fun k hk => ?_⟩
      obtain ⟨K, rfl⟩ : ∃ K, k = K + 1 + 1 := ⟨k - 2, by omega⟩
      show concordanceref01_Lists.l0 (K + 1 + 1) _ _ (i : Int) = _
      rw [concordanceref01_Lists.l0, if_pos (by rw [l1]; omega), decide_eq_false (show ¬ (i : Int) < ((ws.map s40).length : Int) by rw [l2]; omega), concordanceref01_Lists.j1, if_neg (by decide), l1, l2, if_neg (by omega), if_pos (by omega)]
      rfl

theorem refLists_f (vs ws : List PV) (hs : ∀ v ∈ vs, v.t.length < 1000) (hv : vs.length ≤ 10) (hw : ws.length ≤ 10) : Ev (fun k => concordanceref01_Lists.f k (vs.map s40) (ws.map s40)) (cmpL vs ws) := by
  have h := refLists_l0 vs ws hs hv hw vs.length 0 (by omega) (by omega)
  rw [List.drop_zero, List.drop_zero] at h
  exact h
end Go.Proofs.Ytojelhacelfjkaa.KB

/-
  Layer 1: bytes in order; what After answers; and that the printed functions compute just that.
-/
import Derived.Test.YtojelhacelfjkaaKeysBase
import Derived.Test.YtojelhacelfjkaaPAx11s1
import Derived.Test.YtojelhacelfjkaaPAx15s2
set_option linter.unusedVariables false
namespace Go.Proofs.Ytojelhacelfjkaa.KB
open Go.RowKit Go.Proofs.Ytojelhacelfjkaa.PA Go.Proofs.Ytojelhacelfjkaa.BB Go.Proofs.YtojelhacelfjkaaW.PrintWords Go.Proofs.YtojelhacelfjkaaW.PrintLast Go.Proofs.YtojelhacelfjkaaW.PrintMore

/-- What comes behind all that begin with these bytes; nothing if nothing does. -/
def aft : List UInt8 → List UInt8
  | [] => []
  | x :: l => if aft l = [] then (if x = 255 then [] else [x + 1]) else x :: aft l

theorem aft_full (l : List UInt8) : aft (l ++ [255]) = aft l := by
  induction l with
  | nil => rfl
  | cons x l ih => simp only [List.cons_append, aft, ih]
theorem aft_last (l : List UInt8) (y : UInt8) (h : y ≠ 255) : aft (l ++ [y]) = l ++ [y + 1] := by
  induction l with
  | nil => simp [aft, h]
  | cons x l ih =>
    simp only [List.cons_append, aft, ih]
    rw [if_neg (by simp)]
theorem aft_none {l : List UInt8} (h : aft l = []) : ∀ x ∈ l, x = 255 := by
  induction l with
  | nil => intro x hx; cases hx
  | cons y l ih =>
    simp only [aft] at h
    by_cases h1 : aft l = []
    · rw [if_pos h1] at h
      by_cases h2 : y = 255
      · intro x hx
        cases hx with
        | head => exact h2
        | tail _ hx => exact ih h1 x hx
      · rw [if_neg h2] at h
        cases h
    · rw [if_neg h1] at h
      cases h

theorem u_lt (x : UInt8) (h : x ≠ 255) : x < x + 1 := by
  rw [UInt8.lt_iff_toNat_lt, UInt8.toNat_add]
  have h1 : x.toNat ≠ 255 := fun e => h (UInt8.toNat_inj.mp e)
  have h2 : x.toNat < 256 := UInt8.toNat_lt x
  have : (1 : UInt8).toNat = 1 := rfl
  omega
theorem u_succ (x y : UInt8) (h : x < y) : ¬ y < x + 1 := by
  rw [UInt8.lt_iff_toNat_lt] at h ⊢
  rw [UInt8.toNat_add]
  have h2 : y.toNat < 256 := UInt8.toNat_lt y
  have : (1 : UInt8).toNat = 1 := rfl
  omega
theorem u_irr (x : UInt8) : ¬ x < x := by rw [UInt8.lt_iff_toNat_lt]; omega
theorem u_eq {x y : UInt8} (h : ¬ x < y) (h' : ¬ y < x) : x = y := by
  rw [UInt8.lt_iff_toNat_lt] at h h'
  exact UInt8.toNat_inj.mp (by omega)
theorem u_full (y : UInt8) (h : y ≠ 255) : y < 255 := by
  rw [UInt8.lt_iff_toNat_lt]
  have h1 : y.toNat ≠ 255 := fun e => h (UInt8.toNat_inj.mp e)
  have h2 : y.toNat < 256 := UInt8.toNat_lt y
  have : (255 : UInt8).toNat = 255 := rfl
  omega

theorem cb_nil_ge (m : List UInt8) : 0 ≤ Lib.compareBytes m [] := by cases m <;> simp [Lib.compareBytes]
theorem cb_cons (x : UInt8) (l m : List UInt8) : Lib.compareBytes (x :: l) (x :: m) = Lib.compareBytes l m := by
  simp only [Lib.compareBytes]; rw [if_neg (u_irr x), if_neg (u_irr x)]
theorem cb_append (p l m : List UInt8) : Lib.compareBytes (p ++ l) (p ++ m) = Lib.compareBytes l m := by
  induction p with
  | nil => rfl
  | cons x p ih => rw [List.cons_append, List.cons_append, cb_cons, ih]

theorem aft_begins (s t : List UInt8) (h : aft s ≠ []) : Lib.compareBytes (s ++ t) (aft s) < 0 := by
  induction s with
  | nil => exact absurd rfl h
  | cons x l ih =>
    simp only [aft] at h ⊢
    by_cases h1 : aft l = []
    · rw [if_pos h1] at h ⊢
      by_cases h2 : x = 255
      · rw [if_pos h2] at h
        exact absurd rfl h
      · rw [if_neg h2, List.cons_append]
        simp only [Lib.compareBytes]
        rw [if_pos (u_lt x h2)]
        omega
    · rw [if_neg h1, List.cons_append, cb_cons]
      exact ih h1

theorem cb_full (l : List UInt8) : (∀ x ∈ l, x = 255) → ∀ m, ¬ l <+: m → Lib.compareBytes m l < 0 := by
  induction l with
  | nil => intro _ m h; exact absurd (List.nil_prefix) h
  | cons x l ih =>
    intro ha m h
    have hx : x = 255 := ha x (List.mem_cons_self ..)
    subst hx
    cases m with
    | nil => simp [Lib.compareBytes]
    | cons y m =>
      by_cases hy : y = 255
      · subst hy
        rw [cb_cons]
        exact ih (fun x hx => ha x (List.mem_cons_of_mem _ hx)) m (fun hp => h (List.cons_prefix_cons.mpr ⟨rfl, hp⟩))
      · simp only [Lib.compareBytes]
        rw [if_pos (u_full y hy)]
        omega

theorem aft_else (s : List UInt8) : ∀ t, ¬ s <+: t → Lib.compareBytes t s < 0 ∨ 0 ≤ Lib.compareBytes t (aft s) := by
  induction s with
  | nil => intro t h; exact absurd (List.nil_prefix) h
  | cons x l ih =>
    intro t h
    cases t with
    | nil => left; simp [Lib.compareBytes]
    | cons y m =>
      by_cases h1 : y < x
      · left
        simp only [Lib.compareBytes]
        rw [if_pos h1]
        omega
      · by_cases h2 : x < y
        · right
          simp only [aft]
          by_cases h3 : aft l = []
          · rw [if_pos h3]
            by_cases h4 : x = 255
            · rw [if_pos h4]; exact cb_nil_ge _
            · rw [if_neg h4]
              simp only [Lib.compareBytes]
              rw [if_neg (u_succ x y h2)]
              by_cases h5 : x + 1 < y
              · rw [if_pos h5]; omega
              · rw [if_neg h5]; exact cb_nil_ge _
          · rw [if_neg h3]
            simp only [Lib.compareBytes]
            rw [if_neg h1, if_pos h2]
            omega
        · obtain rfl := u_eq h1 h2
          have hp : ¬ l <+: m := fun hp => h (List.cons_prefix_cons.mpr ⟨rfl, hp⟩)
          rw [cb_cons]
          by_cases h3 : aft l = []
          · left
            exact cb_full l (aft_none h3) m hp
          · simp only [aft]
            rw [if_neg h3, cb_cons]
            exact ih m hp

theorem refBytes_l0 (a b : ByteArray) (ha : a.size < 9223372036854775807) (d : Nat) : ∀ i, i + d = a.size → i ≤ b.size → Ev (fun k => concordanceref01_Bytes.l0 k a b (i : Int)) (Lib.compareBytes (a.data.toList.drop i) (b.data.toList.drop i)) := by
  induction d with
  | zero =>
    intro i hi hb
    rw [List.drop_of_length_le (show a.data.toList.length ≤ i by rw [sizeL]; omega)]
    refine ⟨2, fun k hk => ?_⟩
    obtain ⟨K, rfl⟩ : ∃ K, k = K + 1 + 1 := ⟨k - 2, by omega⟩
    show concordanceref01_Bytes.l0 (K + 1 + 1) a b (i : Int) = _
    rw [concordanceref01_Bytes.l0, if_neg (by omega), concordanceref01_Bytes.j1, if_neg (by decide)]
    by_cases h : i < b.size
    · rw [if_pos (by omega), drop_cons b i h]; rfl
    · rw [if_neg (by omega), if_neg (by omega), List.drop_of_length_le (show b.data.toList.length ≤ i by rw [sizeL]; omega)]; rfl
  | succ d ih =>
    intro i hi hb
    have ha1 : i < a.size := by omega
    by_cases h : i < b.size
    · have e := ih (i + 1) (by omega) (by omega)
      rw [drop_cons a i ha1, drop_cons b i h]
      simp only [Lib.compareBytes]
      by_cases h1 : a[i] < b[i]
      · rw [if_pos h1]
        have h1' := UInt8.lt_iff_toNat_lt.mp h1
        refine ⟨2, fun k hk => ?_⟩
        obtain ⟨K, rfl⟩ : ∃ K, k = K + 1 + 1 := ⟨k - 2, by omega⟩
        show concordanceref01_Bytes.l0 (K + 1 + 1) a b (i : Int) = _
        rw [concordanceref01_Bytes.l0, if_pos (by omega), concordanceref01_Bytes.j1, if_pos (by simpa using h), if_pos (by omega), if_pos (by omega), if_pos (by omega), btL a i ha1, btL b i h, if_pos (by omega)]
      · rw [if_neg h1]
        by_cases h2 : b[i] < a[i]
        · rw [if_pos h2]
          have h2' := UInt8.lt_iff_toNat_lt.mp h2
          refine ⟨2, fun k hk => ?_⟩
          obtain ⟨K, rfl⟩ : ∃ K, k = K + 1 + 1 := ⟨k - 2, by omega⟩
          show concordanceref01_Bytes.l0 (K + 1 + 1) a b (i : Int) = _
          rw [concordanceref01_Bytes.l0, if_pos (by omega), concordanceref01_Bytes.j1, if_pos (by simpa using h), if_pos (by omega), if_pos (by omega), if_pos (by omega), btL a i ha1, btL b i h, if_neg (by omega), if_pos (by omega)]
        · rw [if_neg h2]
          have h1' : ¬ (a[i].toNat < b[i].toNat) := fun c => h1 (UInt8.lt_iff_toNat_lt.mpr c)
          have h2' : ¬ (b[i].toNat < a[i].toNat) := fun c => h2 (UInt8.lt_iff_toNat_lt.mpr c)
          refine Ev.step (f := fun k => concordanceref01_Bytes.j1 k a b (i : Int) true) (fun k => ?_) (Ev.step (fun k => ?_) e)
          · rw [concordanceref01_Bytes.l0, if_pos (by omega), decide_eq_true (show (i : Int) < (b.size : Int) by omega)]
          · rw [concordanceref01_Bytes.j1, if_pos rfl, if_pos (by omega), if_pos (by omega), if_pos (by omega), btL a i ha1, btL b i h, if_neg (by omega), if_neg (by omega), wrap_succ (by omega)]
    · rw [drop_cons a i ha1, List.drop_of_length_le (show b.data.toList.length ≤ i by rw [sizeL]; omega)]
      refine ⟨2, fun k hk => ?_⟩
      obtain ⟨K, rfl⟩ : ∃ K, k = K + 1 + 1 := ⟨k - 2, by omega⟩
      show concordanceref01_Bytes.l0 (K + 1 + 1) a b (i : Int) = _
      rw [concordanceref01_Bytes.l0, if_pos (by omega), concordanceref01_Bytes.j1, if_neg (by simpa using h), if_neg (by omega), if_pos (by omega)]
      rfl

theorem refBytes_f (a b : ByteArray) (ha : a.size < 9223372036854775807) : Ev (fun k => concordanceref01_Bytes.f k a b) (Lib.compareBytes a.data.toList b.data.toList) := by
  have h := refBytes_l0 a b ha a.size 0 (by omega) (by omega)
  rw [List.drop_zero, List.drop_zero] at h
  exact h

theorem after_l0 (s : ByteArray) (hs : s.size < 9223372036854775000) : ∀ j, j ≤ s.size → Ev (fun k => keys_After.l0 k s ((j : Int) - 1)) (B (aft (s.data.toList.take j))) := by
  intro j
  induction j with
  | zero =>
    intro _
    refine ⟨1, fun k hk => ?_⟩
    obtain ⟨K, rfl⟩ : ∃ K, k = K + 1 := ⟨k - 1, by omega⟩
    show keys_After.l0 (K + 1) s _ = _
    rw [keys_After.l0, if_neg (by omega)]
    rfl
  | succ j ih =>
    intro hj
    have hlt : j < s.size := by omega
    have e := ih (by omega)
    rw [take_snoc s j hlt]
    have w1 : ((j + 1 : Nat) : Int) - 1 = (j : Int) := by omega
    have w2 : wrap64 ((j : Int) - 1) = (j : Int) - 1 := wrap_id (by omega)
    rw [w1]
    by_cases h : s[j] = 255
    · rw [h, aft_full]
      refine Ev.step (fun k => ?_) e
      rw [keys_After.l0, if_pos (by omega), if_pos (by omega), if_pos (by omega), btL s j hlt, h, if_pos (show ((UInt8.toNat 255 : Nat) : Int) = 255 from rfl), w2]
    · rw [aft_last _ _ h]
      refine ⟨1, fun k hk => ?_⟩
      obtain ⟨K, rfl⟩ : ∃ K, k = K + 1 := ⟨k - 1, by omega⟩
      have h' : ¬ ((s[j].toNat : Nat) : Int) = 255 := fun c => h (UInt8.toNat_inj.mp (by have : (255 : UInt8).toNat = 255 := rfl; omega))
      have e1 : [(((s[j].toNat : Nat) : Int) + 1) % 256] = ints [s[j] + 1] := by
        show _ = [(((s[j] + 1).toNat : Nat) : Int)]
        rw [UInt8.toNat_add]
        have : (1 : UInt8).toNat = 1 := rfl
        rw [this]
        refine congrArg (fun z => [z]) ?_
        omega
      have e2 : (s.extract 0 j).size = j := by rw [ByteArray.size_extract]; omega
      have e3 : (strOfNums (ints [s[j] + 1])).size = 1 := by rw [← sizeL, str_ints]; rfl
      show keys_After.l0 (K + 1) s _ = _
      rw [keys_After.l0, if_pos (by omega), if_pos (by omega), if_pos (by omega), btL s j hlt, if_neg h', if_pos (by omega)]
      simp only [Option.bind_some]
      rw [Int.toNat_natCast, e1, if_pos (by omega)]
      congr 1
      apply ext
      rw [dataAppend, str_ints, extract_front, B_L]

theorem after_f (s : ByteArray) (hs : s.size < 9223372036854775000) : Ev (fun k => keys_After.f k s) (B (aft s.data.toList)) := by
  have h := after_l0 s hs s.size (Nat.le_refl _)
  rw [List.take_of_length_le (by rw [sizeL]; exact Nat.le_refl _)] at h
  have w : wrap64 ((s.size : Int) - 1) = (s.size : Int) - 1 := wrap_id (by omega)
  show Ev (fun k => keys_After.l0 k s (wrap64 ((s.size : Int) - 1))) _
  rw [w]
  exact h

end Go.Proofs.Ytojelhacelfjkaa.KB

/-
  What the reference's functions compute, plainly: the same lists as the locks'.
-/
import Derived.Test.YteccbihjkolpcaaPAx3
import Derived.Test.YteccbihjkolpcaaPAx2
import Derived.Test.YteccbihjkolpcaaLkPlain
set_option linter.unusedVariables false
set_option linter.unusedSimpArgs false
namespace Go.Proofs.Yteccbihjkolpcaa
open Go Go.RowKit Go.Proofs.Yteccbihjkolpcaa.PA LockP

def enc (h : H) : S41 := ⟨h.s, h.t, h.m + 1, h.r⟩
def Modes (L : List H) : Prop := ∀ h ∈ L, h.m = 0 ∨ h.m = 1 ∨ h.m = 2

theorem rd_enc {L : List H} {i : Nat} {h : H} (hi : L[i]? = some h) : rd_T41 (L.map enc) (i : Int) = enc h := by
  simp [rd_T41, List.getD_eq_getElem?_getD, hi]
theorem wrap_at {i n : Nat} (h : i < n) (hn : n ≤ 1000000) : wrap64 ((i : Int) + 1) = ((i + 1 : Nat) : Int) := by
  unfold wrap64; omega
theorem enc_inj {x y : H} (h : enc x = enc y) : x = y := by
  cases x; cases y
  simp only [enc, S41.mk.injEq] at h
  simp only [H.mk.injEq]
  omega

theorem ask_l1 (L : List H) (x : H) (hn : L.length ≤ 1000000) : ∀ d i, i + d = L.length → ∀ k, d < k →
    concordanceref21_Ask.l1 k (L.map enc) (i : Int) x.s x.t (x.m + 1) x.r = some (if x ∈ L.drop i then L.map enc else L.map enc ++ [enc x], 0) := by
  intro d
  induction d with
  | zero =>
    intro i hi k hk
    obtain ⟨k, rfl⟩ : ∃ m, k = m + 1 := ⟨k - 1, by omega⟩
    have h0 : L.drop i = [] := List.drop_eq_nil_of_le (by omega)
    rw [concordanceref21_Ask.l1]
    rw [if_neg (by simp; omega), h0]
    simp only [Option.bind_some, List.nil_append, List.length_nil, List.length_map, List.length_cons]
    rw [if_pos (by omega), if_pos (by omega)]
    simp [enc]
  | succ d ih =>
    intro i hi k hk
    obtain ⟨k, rfl⟩ : ∃ m, k = m + 1 := ⟨k - 1, by omega⟩
    have hlt : i < L.length := by omega
    have hget : L[i]? = some L[i] := by simp [hlt]
    have hdrop : L.drop i = L[i] :: L.drop (i + 1) := List.drop_eq_getElem_cons hlt
    rw [concordanceref21_Ask.l1]
    rw [if_pos (by simp; omega), if_pos (by omega), rd_enc hget, wrap_at hlt hn, ih (i + 1) (by omega) k (by omega)]
    have hb : ((enc L[i]).f0 == x.s && ((enc L[i]).f1 == x.t && ((enc L[i]).f2 == x.m + 1 && (enc L[i]).f3 == x.r))) = true ↔ x = L[i] := by
      simp only [enc, Bool.and_eq_true, beq_iff_eq]
      constructor
      · rintro ⟨h1, h2, h3, h4⟩
        generalize L[i] = y at *
        cases x; cases y
        simp only [H.mk.injEq] at *
        omega
      · rintro h
        rw [← h]
        exact ⟨rfl, rfl, rfl, rfl⟩
    rw [hdrop]
    generalize L.drop (i + 1) = M at *
    generalize L[i] = y at *
    by_cases he : x = y
    · rw [if_pos (hb.2 he)]
      simp [he]
    · rw [if_neg (fun h => he (hb.1 h))]
      simp [he]

theorem ask_j1 (k : Nat) (L : List H) (i : Nat) (x y : H) (b : Bool) (hx : x.m = 0 ∨ x.m = 1 ∨ x.m = 2) (hy : y.m = 0 ∨ y.m = 1 ∨ y.m = 2) :
    concordanceref21_Ask.j1 (k + 1) (L.map enc) (i : Int) b x.s x.t (x.m + 1) x.r (enc y).f0 (enc y).f1 (enc y).f2 (enc y).f3 =
      if b = true then concordanceref21_Ask.l0 k (L.map enc) (wrap64 ((i : Int) + 1)) x.s x.t (x.m + 1) x.r else if bars x.m x.r y = true then some (L.map enc, 16) else concordanceref21_Ask.l0 k (L.map enc) (wrap64 ((i : Int) + 1)) x.s x.t (x.m + 1) x.r := by
  simp only [concordanceref21_Ask.j1, enc]
  by_cases hb : b = true
  · rw [if_pos hb, if_pos hb]
  · rw [if_neg hb, if_neg hb]
    rcases hx with hx | hx | hx <;> rcases hy with hy | hy | hy <;> simp [hx, hy, bars]
    by_cases hr : x.r = y.r
    · rw [if_pos hr, if_pos hr.symm]
    · rw [if_neg hr, if_neg (fun h => hr h.symm)]

theorem ask_l0 (L : List H) (x : H) (hn : L.length ≤ 1000000) (hL : Modes L) (hx : x.m = 0 ∨ x.m = 1 ∨ x.m = 2) : ∀ d i, i + d = L.length → ∀ k, 2 * d + L.length + 1 < k →
    concordanceref21_Ask.l0 k (L.map enc) (i : Int) x.s x.t (x.m + 1) x.r = some (if conflict (L.drop i) x then (L.map enc, 16) else (if x ∈ L then L.map enc else L.map enc ++ [enc x], 0)) := by
  intro d
  induction d with
  | zero =>
    intro i hi k hk
    obtain ⟨k, rfl⟩ : ∃ m, k = m + 1 := ⟨k - 1, by omega⟩
    have h0 : L.drop i = [] := List.drop_eq_nil_of_le (by omega)
    simp only [concordanceref21_Ask.l0]
    rw [if_neg (by simp; omega), h0]
    have := ask_l1 L x hn L.length 0 (by omega) k (by omega)
    rw [List.drop_zero] at this
    rw [show ((0 : Nat) : Int) = 0 from rfl] at this
    rw [this]
    simp [conflict]
  | succ d ih =>
    intro i hi k hk
    obtain ⟨k, rfl⟩ : ∃ m, k = m + 1 := ⟨k - 1, by omega⟩
    obtain ⟨k, rfl⟩ : ∃ m, k = m + 1 := ⟨k - 1, by omega⟩
    have hlt : i < L.length := by omega
    have hget : L[i]? = some L[i] := by simp [hlt]
    have hdrop : L.drop i = L[i] :: L.drop (i + 1) := List.drop_eq_getElem_cons hlt
    have hm := hL L[i] (List.getElem_mem hlt)
    have hih := ih (i + 1) (by omega) k (by omega)
    rw [hdrop]
    generalize L[i] = y at *
    rw [concordanceref21_Ask.l0, if_pos (by simp; omega), if_pos (by omega), rd_enc hget, ask_j1 k L i x y true hx hm, ask_j1 k L i x y _ hx hm, wrap_at hlt hn, hih]
    have hcc : conflict (y :: L.drop (i + 1)) x = (decide (y.s ≠ x.s) && (decide (y.t = x.t) && bars x.m x.r y) || conflict (L.drop (i + 1)) x) := by simp [conflict]
    rw [hcc]
    by_cases hs : y.s = x.s
    · rw [if_pos (by simpa [enc] using hs)]
      simp [hs]
    · rw [if_neg (by simpa [enc] using hs)]
      by_cases ht : y.t = x.t
      · have h1 : ((enc y).f1 != x.t) = false := by simp [enc, ht]
        rw [h1]
        simp only [Bool.false_eq_true, if_false]
        cases hb : bars x.m x.r y
        · simp
        · simp [hs, ht]
      · have h1 : ((enc y).f1 != x.t) = true := by simp [enc, ht]
        rw [h1]
        simp [ht]

theorem ask_eq (L : List H) (x : H) (hn : L.length ≤ 1000000) (hL : Modes L) (hx : x.m = 0 ∨ x.m = 1 ∨ x.m = 2) :
    ∃ k, concordanceref21_Ask.f k (L.map enc) x.s x.t (x.m + 1) x.r = some ((LockP.take L x).1.map enc, (LockP.take L x).2) := by
  refine ⟨2 * L.length + L.length + 2, ?_⟩
  unfold concordanceref21_Ask.f
  have := ask_l0 L x hn hL hx L.length 0 (by omega) (2 * L.length + L.length + 2) (by omega)
  rw [List.drop_zero, show ((0 : Nat) : Int) = 0 from rfl] at this
  rw [this]
  unfold LockP.take add
  cases conflict L x
  · by_cases hxL : x ∈ L <;> simp [hxL]
  · simp

theorem count_l0 (L : List H) (s : Int) (hn : L.length ≤ 1000000) : ∀ d i, i + d = L.length → ∀ (c k : Nat), d < k → c + d ≤ 2000000 →
    concordanceref21_Count.l0 k (L.map enc) s (c : Int) (i : Int) = some ((c + held (L.drop i) s : Nat) : Int) := by
  intro d
  induction d with
  | zero =>
    intro i hi c k hk hc
    obtain ⟨k, rfl⟩ : ∃ m, k = m + 1 := ⟨k - 1, by omega⟩
    have h0 : L.drop i = [] := List.drop_eq_nil_of_le (by omega)
    rw [concordanceref21_Count.l0, if_neg (by simp; omega), h0]
    simp [held]
  | succ d ih =>
    intro i hi c k hk hc
    obtain ⟨k, rfl⟩ : ∃ m, k = m + 1 := ⟨k - 1, by omega⟩
    have hlt : i < L.length := by omega
    have hget : L[i]? = some L[i] := by simp [hlt]
    have hdrop : L.drop i = L[i] :: L.drop (i + 1) := List.drop_eq_getElem_cons hlt
    have hwc : wrap64 ((c : Int) + 1) = ((c + 1 : Nat) : Int) := by unfold wrap64; omega
    rw [concordanceref21_Count.l0, if_pos (by simp; omega), if_pos (by omega), rd_enc hget, wrap_at hlt hn, hwc, hdrop]
    have ih1 := ih (i + 1) (by omega) (c + 1) k (by omega) (by omega)
    have ih2 : c + d ≤ 2000000 → _ := ih (i + 1) (by omega) c k (by omega)
    generalize L.drop (i + 1) = M at *
    generalize L[i] = y at *
    by_cases hs : y.s = s
    · rw [if_pos (by simpa [enc] using hs), ih1]
      simp only [held, List.filter_cons, hs, decide_true, if_true, List.length_cons]
      congr 2
      omega
    · rw [if_neg (by simpa [enc] using hs), ih2 (by omega)]
      simp [held, List.filter_cons, hs]
theorem count_eq (L : List H) (s : Int) (hn : L.length ≤ 1000000) : ∃ k, concordanceref21_Count.f k (L.map enc) s = some (held L s : Int) := by
  refine ⟨L.length + 1, ?_⟩
  have := count_l0 L s hn L.length 0 (by omega) 0 (L.length + 1) (by omega) (by omega)
  rw [List.drop_zero, Nat.zero_add] at this
  exact this

theorem without_l0 (L : List H) (s : Int) (hn : L.length ≤ 1000000) : ∀ d i, i + d = L.length → ∀ (acc : List S41) (k : Nat), d < k → acc.length + d ≤ 2000000 →
    concordanceref21_Without.l0 k (L.map enc) s acc (i : Int) = some (acc ++ (without (L.drop i) s).map enc) := by
  intro d
  induction d with
  | zero =>
    intro i hi acc k hk hc
    obtain ⟨k, rfl⟩ : ∃ m, k = m + 1 := ⟨k - 1, by omega⟩
    have h0 : L.drop i = [] := List.drop_eq_nil_of_le (by omega)
    rw [concordanceref21_Without.l0, if_neg (by simp; omega), h0]
    simp [without]
  | succ d ih =>
    intro i hi acc k hk hc
    obtain ⟨k, rfl⟩ : ∃ m, k = m + 1 := ⟨k - 1, by omega⟩
    have hlt : i < L.length := by omega
    have hget : L[i]? = some L[i] := by simp [hlt]
    have hdrop : L.drop i = L[i] :: L.drop (i + 1) := List.drop_eq_getElem_cons hlt
    rw [concordanceref21_Without.l0, if_pos (by simp; omega), if_pos (by omega), rd_enc hget, wrap_at hlt hn, hdrop]
    have ih1 := ih (i + 1) (by omega) acc k (by omega) (by omega)
    have ih2 : ∀ z : S41, _ := fun z => ih (i + 1) (by omega) (acc ++ [z]) k (by omega) (by simp; omega)
    generalize L.drop (i + 1) = M at *
    generalize L[i] = y at *
    by_cases hs : y.s = s
    · rw [if_pos (by simpa [enc] using hs), ih1]
      simp [without, List.filter_cons, hs]
    · rw [if_neg (by simpa [enc] using hs), if_pos (by omega), ih2]
      simp [without, List.filter_cons, hs]
theorem without_eq (L : List H) (s : Int) (hn : L.length ≤ 1000000) : ∃ k, concordanceref21_Without.f k (L.map enc) s = some ((without L s).map enc) := by
  refine ⟨L.length + 1, ?_⟩
  have := without_l0 L s hn L.length 0 (by omega) [] (L.length + 1) (by omega) (by simp; omega)
  rw [List.drop_zero, List.nil_append] at this
  exact this
end Go.Proofs.Yteccbihjkolpcaa

/-
  Layer 1: what is put is put apart, and joined.
-/
import Derived.Test.YtojelhacelfjkaaKeysBoth
set_option linter.unusedVariables false
namespace Go.Proofs.Ytojelhacelfjkaa.KB
open Go.RowKit Go.Proofs.Ytojelhacelfjkaa.PA Go.Proofs.Ytojelhacelfjkaa.BB Go.Proofs.YtojelhacelfjkaaW.PrintWords Go.Proofs.YtojelhacelfjkaaW.PrintLast Go.Proofs.YtojelhacelfjkaaW.PrintMore

theorem back36 (vs : List PV) : (vs.map s36).map p36 = vs := by
  rw [List.map_map]
  conv => rhs; rw [← List.map_id vs]
  exact List.map_congr_left fun v _ => p36_s36 v
theorem back40 (vs : List PV) : (vs.map s40).map p40 = vs := by
  rw [List.map_map]
  conv => rhs; rw [← List.map_id vs]
  exact List.map_congr_left fun v _ => p40_s40 v

/-- What Put answers of a list that both made. -/
theorem put_both (l : List S52) : Ev (fun k => keys_Put.f k ((cuts l).map s36)) (putR (cuts l)) := by
  have h := put_f ((cuts l).map s36) (by rw [List.length_map]; have := cuts_length l; omega)
  rwa [back36] at h
theorem refPut_both (l : List S52) : Ev (fun k => concordanceref01_Put.f k ((cuts l).map s40)) (putR (cuts l)) := by
  have h := refPut_f ((cuts l).map s40) (by rw [List.length_map]; have := cuts_length l; omega)
  rwa [back40] at h

theorem putP_length (vs : List PV) : (putP vs).1.length ≤ 43 * vs.length := by
  induction vs with
  | nil => simp [putP]
  | cons v vs ih =>
    simp only [putP]
    by_cases h : okV v = 0
    · rw [if_pos h]
      have := enc_length h
      by_cases h2 : (putP vs).2 = 0
      · rw [if_pos h2]
        simp only [List.length_append, List.length_cons]
        omega
      · rw [if_neg h2]; simp
    · rw [if_neg h]; simp

theorem putP_inj {vs ws : List PV} (h1 : (putP vs).2 = 0) (h2 : (putP ws).2 = 0) (h : (putP vs).1 = (putP ws).1) : vs = ws := by
  have e1 := get_put vs ((putP vs).1.length + 1) (Nat.lt_succ_self _) h1
  have e2 := get_put ws ((putP vs).1.length + 1) (by rw [h]; exact Nat.lt_succ_self _) h2
  rw [← h, e1] at e2
  exact (Prod.mk.inj e2).1

theorem putP_append (vs ws : List PV) : putP (vs ++ ws) = if (putP vs).2 = 0 then (if (putP ws).2 = 0 then ((putP vs).1 ++ (putP ws).1, 0) else ([], (putP ws).2)) else ([], (putP vs).2) := by
  induction vs with
  | nil =>
    simp only [List.nil_append, putP, if_true]
    by_cases h : (putP ws).2 = 0
    · rw [if_pos h, ← h]
    · rw [if_neg h, ← putP_fail h]
  | cons v vs ih =>
    simp only [List.cons_append, putP, ih]
    by_cases h : okV v = 0
    · by_cases h1 : (putP vs).2 = 0
      · by_cases h2 : (putP ws).2 = 0
        · simp [h, h1, h2]
        · simp [h, h1, h2]
      · simp [h, h1]
    · simp [h]
end Go.Proofs.Ytojelhacelfjkaa.KB

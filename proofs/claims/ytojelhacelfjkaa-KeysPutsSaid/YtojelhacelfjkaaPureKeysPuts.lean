import Derived.Test.YtojelhacelfjkaaKeysMaps
import Derived.Test.YtojelhacelfjkaaKeysSpeaks
import Derived.Test.YtojelhacelfjkaaPAx9s1
set_option linter.unusedVariables false
namespace Go.Proofs.Ytojelhacelfjkaa.Pure
open Go.RowKit Go.Proofs.Ytojelhacelfjkaa.PA Go.Proofs.Ytojelhacelfjkaa.KB Go.Proofs.Ytojelhacelfjkaa.BB Go.Proofs.YtojelhacelfjkaaW.PrintWords Go.Proofs.YtojelhacelfjkaaW.PrintLast Go.Proofs.YtojelhacelfjkaaW.PrintMore

theorem puts_l0 (x : List S36) (hx : x.length < 1000) (d : Nat) : ∀ i, i + d = x.length → Ev (fun k => concordancelaw01_KeysPuts.l0 k x x (i : Int)) true := by
  induction d with
  | zero =>
    intro i hi
    refine ⟨1, fun k hk => ?_⟩
    obtain ⟨K, rfl⟩ : ∃ K, k = K + 1 := ⟨k - 1, by omega⟩
    show concordancelaw01_KeysPuts.l0 (K + 1) x x _ = _
    rw [concordancelaw01_KeysPuts.l0, if_neg (by omega)]
  | succ d ih =>
    intro i hi
    refine Ev.step (fun k => ?_) (ih (i + 1) (by omega))
    rw [concordancelaw01_KeysPuts.l0, if_pos (by omega), if_pos (by omega), if_pos (by omega), if_neg (by simp), wrap_succ (by omega)]

theorem puts_j0 (vs : List PV) (hv : vs.length ≤ 10) : Ev (fun k => concordancelaw01_KeysPuts.j0 k (vs.map s36) (putR vs).1 (putR vs).2 ((putR vs).2 != (putR vs).2)) true := by
  rw [bne_self_eq_false]
  by_cases h : (putR vs).2 = 0
  · have hl := putP_length vs
    have hz : (putP vs).2 = 0 := h
    have e := getF (putR vs).1 (by show (B (putP vs).1).size < _; rw [B_size]; omega)
    have eg : getL (putR vs).1.data.toList = (vs, 0) := by
      show getL (B (putP vs).1).data.toList = _
      rw [B_L]
      exact get_put vs _ (Nat.lt_succ_self _) hz
    rw [eg] at e
    have er : gres [] (vs, 0) = (vs.map s36, 0) := by unfold gres; rw [if_pos rfl, List.nil_append]
    rw [er] at e
    refine Ev.step (fun k => ?_) (Ev.bind e (f := fun k bt225 => if bt225.2 = 0 then (concordancelaw01_KeysPuts.j1 k (vs.map s36) bt225.1 ((bt225.1.length : Int) != ((vs.map s36).length : Int))) else (concordancelaw01_KeysPuts.j1 k (vs.map s36) bt225.1 true)) ?_)
    · rw [concordancelaw01_KeysPuts.j0, if_neg (by decide), if_pos h]
    · simp only [if_true, bne_self_eq_false]
      refine Ev.step (fun k => ?_) (puts_l0 (vs.map s36) (by rw [List.length_map]; omega) (vs.map s36).length 0 (by omega))
      rw [concordancelaw01_KeysPuts.j1, if_neg (by decide)]
      rfl
  · refine ⟨1, fun k hk => ?_⟩
    obtain ⟨K, rfl⟩ : ∃ K, k = K + 1 := ⟨k - 1, by omega⟩
    show concordancelaw01_KeysPuts.j0 (K + 1) _ _ _ _ = _
    rw [concordancelaw01_KeysPuts.j0, if_neg (by decide), if_neg h]

theorem KeysPuts : ∀ l : List S52, ∃ k, concordancelaw01_KeysPuts.f k l = some true := by
  intro l
  have h : Ev (fun k => concordancelaw01_KeysPuts.f k l) true := by
    unfold concordancelaw01_KeysPuts.f
    refine Ev.bind speaks ?_
    simp only [if_true]
    refine Ev.bind (both_f l) ?_
    refine Ev.bind (put_both l) ?_
    refine Ev.bind (refPut_both l) ?_
    simp only [if_true]
    exact puts_j0 (cuts l) (cuts_length l)
  exact h.rounds
end Go.Proofs.Ytojelhacelfjkaa.Pure

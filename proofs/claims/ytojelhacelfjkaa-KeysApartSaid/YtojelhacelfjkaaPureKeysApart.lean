import Derived.Test.YtojelhacelfjkaaKeysMaps
import Derived.Test.YtojelhacelfjkaaKeysSpeaks
import Derived.Test.YtojelhacelfjkaaPAx15
set_option linter.unusedVariables false
namespace Go.Proofs.Ytojelhacelfjkaa.Pure
open Go.RowKit Go.Proofs.Ytojelhacelfjkaa.PA Go.Proofs.Ytojelhacelfjkaa.KB Go.Proofs.Ytojelhacelfjkaa.BB Go.Proofs.YtojelhacelfjkaaW.PrintWords Go.Proofs.YtojelhacelfjkaaW.PrintLast Go.Proofs.YtojelhacelfjkaaW.PrintMore

theorem apart_l0 (vs ws : List PV) (hv : vs.length ≤ 10) (s t : ByteArray) (hst : s.toList = t.toList ↔ vs = ws) (d : Nat) : ∀ i b, i + d = vs.length →
    (b = true → vs.length = ws.length ∧ vs.take i = ws.take i) → (b = false → vs ≠ ws) → Ev (fun k => concordancelaw01_KeysApart.l0 k (vs.map s40) (ws.map s40) s t b (i : Int)) true := by
  have l1 : (vs.map s40).length = vs.length := List.length_map _
  have l2 : (ws.map s40).length = ws.length := List.length_map _
  have no : ∀ (i : Nat), vs ≠ ws → Ev (fun k => concordancelaw01_KeysApart.l0 k (vs.map s40) (ws.map s40) s t false (i : Int)) true := by
    intro i hb
    refine ⟨1, fun k hk => ?_⟩
    obtain ⟨K, rfl⟩ : ∃ K, k = K + 1 := ⟨k - 1, by omega⟩
    show concordancelaw01_KeysApart.l0 (K + 1) _ _ _ _ _ _ = _
    have : (s.toList == t.toList) = false := beq_eq_false_iff_ne.mpr fun h => hb (hst.mp h)
    rw [concordancelaw01_KeysApart.l0, if_neg (by decide), this]
    rfl
  induction d with
  | zero =>
    intro i b hi h1 h2
    cases b with
    | false => exact no i (h2 rfl)
    | true =>
      obtain ⟨g1, g2⟩ := h1 rfl
      have e : vs = ws := by
        rw [List.take_of_length_le (by omega), List.take_of_length_le (by omega)] at g2
        exact g2
      refine ⟨1, fun k hk => ?_⟩
      obtain ⟨K, rfl⟩ : ∃ K, k = K + 1 := ⟨k - 1, by omega⟩
      show concordancelaw01_KeysApart.l0 (K + 1) _ _ _ _ _ _ = _
      have : (s.toList == t.toList) = true := beq_iff_eq.mpr (hst.mpr e)
      rw [concordancelaw01_KeysApart.l0, if_pos rfl, if_neg (by rw [l1]; omega), this]
      rfl
  | succ d ih =>
    intro i b hi h1 h2
    cases b with
    | false => exact no i (h2 rfl)
    | true =>
      obtain ⟨g1, g2⟩ := h1 rfl
      have hi1 : i < vs.length := by omega
      have hi2 : i < ws.length := by omega
      have key : ∀ c : Bool, (c = true ↔ vs[i] = ws[i]) → Ev (fun k => concordancelaw01_KeysApart.l0 k (vs.map s40) (ws.map s40) s t c ((i + 1 : Nat) : Int)) true := by
        intro c hc
        refine ih (i + 1) c (by omega) (fun h => ⟨g1, ?_⟩) (fun h e => ?_)
        · rw [List.take_succ_eq_append_getElem hi1, List.take_succ_eq_append_getElem hi2, g2, hc.mp h]
        · subst e
          rw [hc.mpr rfl] at h
          exact absurd h (by decide)
      refine Ev.step (fun k => ?_) (key ((((s40 vs[i]).f0.toList) == ((s40 ws[i]).f0.toList)) && (((s40 vs[i]).f1 == (s40 ws[i]).f1) && ((s40 vs[i]).f2 == (s40 ws[i]).f2))) ?_)
      · rw [concordancelaw01_KeysApart.l0, if_pos rfl, if_pos (by rw [l1]; omega), if_pos (by omega), if_pos (by rw [l2]; omega), rd40 _ i (by rw [l1]; omega), rd40 _ i (by rw [l2]; omega), List.getElem_map, List.getElem_map, wrap_succ (by omega)]
      · simp only [Bool.and_eq_true, beq_iff_eq, Lib.toList_data]
        constructor
        · rintro ⟨a, b, c⟩
          rw [← p40_s40 vs[i], ← p40_s40 ws[i]]
          unfold p40
          rw [a, b, c]
        · intro e
          rw [e]
          exact ⟨rfl, rfl, rfl⟩

theorem KeysApart : ∀ l m : List S52, ∃ k, concordancelaw01_KeysApart.f k l m = some true := by
  intro l m
  have h : Ev (fun k => concordancelaw01_KeysApart.f k l m) true := by
    have n1 := cuts_length l
    have n2 := cuts_length m
    unfold concordancelaw01_KeysApart.f
    refine Ev.bind speaks ?_
    simp only [if_true]
    refine Ev.bind (both_f l) ?_
    refine Ev.bind (both_f m) ?_
    refine Ev.bind (put_both l) ?_
    refine Ev.bind (put_both m) ?_
    have jt : Ev (fun k => concordancelaw01_KeysApart.j0 k ((cuts l).map s40) ((cuts m).map s40) (putR (cuts l)).1 (putR (cuts m)).1 true) true := by
      refine ⟨1, fun k hk => ?_⟩
      obtain ⟨K, rfl⟩ : ∃ K, k = K + 1 := ⟨k - 1, by omega⟩
      show concordancelaw01_KeysApart.j0 (K + 1) _ _ _ _ _ = _
      rw [concordancelaw01_KeysApart.j0, if_pos rfl]
    by_cases h1 : (putR (cuts l)).2 = 0
    · simp only [if_pos h1]
      by_cases h2 : (putR (cuts m)).2 = 0
      · rw [h2, bne_self_eq_false]
        have hst : (putR (cuts l)).1.toList = (putR (cuts m)).1.toList ↔ cuts l = cuts m := by
          show (B (putP (cuts l)).1).toList = (B (putP (cuts m)).1).toList ↔ _
          rw [Lib.toList_data, Lib.toList_data, B_L, B_L]
          exact ⟨fun h => putP_inj h1 h2 h, fun h => by rw [h]⟩
        refine Ev.step (fun k => ?_) (apart_l0 (cuts l) (cuts m) n1 _ _ hst (cuts l).length 0 ((((cuts l).map s40).length : Int) == (((cuts m).map s40).length : Int)) (by omega) (fun h => ⟨?_, by simp⟩) (fun h e => ?_))
        · rw [concordancelaw01_KeysApart.j0, if_neg (by decide)]
          rfl
        · rw [beq_iff_eq, List.length_map, List.length_map] at h
          omega
        · rw [e, beq_self_eq_true] at h
          exact absurd h (by decide)
      · have : ((putR (cuts m)).2 != 0) = true := bne_iff_ne.mpr h2
        rw [this]
        exact jt
    · simp only [if_neg h1]
      exact jt
  exact h.rounds
end Go.Proofs.Ytojelhacelfjkaa.Pure

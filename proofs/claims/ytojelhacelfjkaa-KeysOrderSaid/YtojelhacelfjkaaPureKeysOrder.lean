import Derived.Test.YtojelhacelfjkaaKeysOrd
import Derived.Test.YtojelhacelfjkaaKeysSpeaks
import Derived.Test.YtojelhacelfjkaaPAx13
set_option linter.unusedVariables false
namespace Go.Proofs.Ytojelhacelfjkaa.Pure
open Go.RowKit Go.Proofs.Ytojelhacelfjkaa.PA Go.Proofs.Ytojelhacelfjkaa.KB Go.Proofs.Ytojelhacelfjkaa.BB Go.Proofs.YtojelhacelfjkaaW.PrintWords Go.Proofs.YtojelhacelfjkaaW.PrintLast Go.Proofs.YtojelhacelfjkaaW.PrintMore

/-- Behind all pairs: the keys, if both are. -/
theorem order_end (l m : List S52) (i : Int) : Ev (fun k => concordancelaw01_KeysOrder.j1 k ((cuts l).map s36) ((cuts l).map s40) ((cuts m).map s36) ((cuts m).map s40) i false) true := by
  refine Ev.step (fun k => ?_) (Ev.bind (put_both l) (f := fun k bt276 => (keys_Put.f k ((cuts m).map s36)).bind fun bt278 => (if bt276.2 = 0 then (if bt278.2 = 0 then ((concordanceref01_Bytes.f k bt276.1 bt278.1).bind fun t280 => ((concordanceref01_Lists.f k ((cuts l).map s40) ((cuts m).map s40)).bind fun t281 => (some (t280 == t281)))) else (some true)) else (some true))) ?_)
  · rw [concordancelaw01_KeysOrder.j1, if_neg (by decide)]
  · refine Ev.bind (put_both m) ?_
    by_cases h1 : (putR (cuts l)).2 = 0
    · simp only [if_pos h1]
      by_cases h2 : (putR (cuts m)).2 = 0
      · simp only [if_pos h2]
        have n1 := cuts_length l
        have n2 := cuts_length m
        have z := putP_length (cuts l)
        have e := refBytes_f (putR (cuts l)).1 (putR (cuts m)).1 (by show (B (putP (cuts l)).1).size < _; rw [B_size]; omega)
        have ee : Lib.compareBytes (putR (cuts l)).1.data.toList (putR (cuts m)).1.data.toList = cmpL (cuts l) (cuts m) := by
          show Lib.compareBytes (B (putP (cuts l)).1).data.toList (B (putP (cuts m)).1).data.toList = _
          rw [B_L, B_L]
          exact cb_put _ _ h1 h2
        rw [ee] at e
        refine Ev.bind e ?_
        refine Ev.bind (refLists_f (cuts l) (cuts m) (fun v hv => cut_short hv) n1 n2) ?_
        simp only [beq_self_eq_true]
        exact Ev.now _
      · simp only [if_neg h2]
        exact Ev.now _
    · simp only [if_neg h1]
      exact Ev.now _

theorem order_l0 (l m : List S52) (d : Nat) : ∀ i, i + d = (cuts l).length → Ev (fun k => concordancelaw01_KeysOrder.l0 k ((cuts l).map s36) ((cuts l).map s40) ((cuts m).map s36) ((cuts m).map s40) (i : Int)) true := by
  have n1 := cuts_length l
  have n2 := cuts_length m
  have l1 : ((cuts l).map s36).length = (cuts l).length := List.length_map _
  have l2 : ((cuts m).map s36).length = (cuts m).length := List.length_map _
  have l3 : ((cuts l).map s40).length = (cuts l).length := List.length_map _
  have l4 : ((cuts m).map s40).length = (cuts m).length := List.length_map _
  induction d with
  | zero =>
    intro i hi
    refine Ev.step (fun k => ?_) (order_end l m (i : Int))
    rw [concordancelaw01_KeysOrder.l0, if_neg (by rw [l1]; omega)]
  | succ d ih =>
    intro i hi
    have h1 : i < (cuts l).length := by omega
    by_cases h : i < (cuts m).length
    · have e := ih (i + 1) (by omega)
      have c1 := compare_f (cuts l)[i] (cuts m)[i]
      have c2 := refCompare_f (cuts l)[i] (cuts m)[i] (cut_short (List.getElem_mem h1))
      refine Ev.step (f := fun k => concordancelaw01_KeysOrder.j1 k ((cuts l).map s36) ((cuts l).map s40) ((cuts m).map s36) ((cuts m).map s40) (i : Int) true) (fun k => ?_)
        (Ev.step (fun k => ?_) (Ev.bind c1 (f := fun k t272 => (concordanceref01_Compare.f k (s40 (cuts l)[i]).f0 (s40 (cuts l)[i]).f1 (s40 (cuts l)[i]).f2 (s40 (cuts m)[i]).f0 (s40 (cuts m)[i]).f1 (s40 (cuts m)[i]).f2).bind fun t275 => (if t272 = t275 then (concordancelaw01_KeysOrder.l0 k ((cuts l).map s36) ((cuts l).map s40) ((cuts m).map s36) ((cuts m).map s40) ((i + 1 : Nat) : Int)) else (some false))) ?_))
      · rw [concordancelaw01_KeysOrder.l0, if_pos (by rw [l1]; omega), decide_eq_true (show (i : Int) < (((cuts m).map s36).length : Int) by rw [l2]; omega)]
      · have q1 : (i : Int) < (((cuts l).map s40).length : Int) := by rw [l3]; omega
        have q2 : (i : Int) < (((cuts m).map s40).length : Int) := by rw [l4]; omega
        rw [concordancelaw01_KeysOrder.j1, if_pos rfl, if_pos (by omega), if_pos (by rw [l1]; omega), if_pos (by rw [l2]; omega), rd36 _ i (by rw [l1]; omega), rd36 _ i (by rw [l2]; omega), rd40 _ i (by rw [l3]; omega), rd40 _ i (by rw [l4]; omega), List.getElem_map, List.getElem_map, List.getElem_map, List.getElem_map, wrap_succ (by omega)]
        simp only [if_pos q1, if_pos q2]
      · refine Ev.bind c2 ?_
        simp only [if_true]
        exact e
    · refine Ev.step (fun k => ?_) (order_end l m (i : Int))
      rw [concordancelaw01_KeysOrder.l0, if_pos (by rw [l1]; omega), decide_eq_false (show ¬ (i : Int) < (((cuts m).map s36).length : Int) by rw [l2]; omega)]

theorem KeysOrder : ∀ l m : List S52, ∃ k, concordancelaw01_KeysOrder.f k l m = some true := by
  intro l m
  have h : Ev (fun k => concordancelaw01_KeysOrder.f k l m) true := by
    unfold concordancelaw01_KeysOrder.f
    refine Ev.bind speaks ?_
    simp only [if_true]
    refine Ev.bind (both_f l) ?_
    refine Ev.bind (both_f m) ?_
    exact order_l0 l m (cuts l).length 0 (by omega)
  exact h.rounds
end Go.Proofs.Ytojelhacelfjkaa.Pure

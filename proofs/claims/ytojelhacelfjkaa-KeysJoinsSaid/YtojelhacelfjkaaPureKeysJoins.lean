import Derived.Test.YtojelhacelfjkaaKeysMaps
import Derived.Test.YtojelhacelfjkaaKeysSpeaks
import Derived.Test.YtojelhacelfjkaaPAx15s1
set_option linter.unusedVariables false
namespace Go.Proofs.Ytojelhacelfjkaa.Pure
open Go.RowKit Go.Proofs.Ytojelhacelfjkaa.PA Go.Proofs.Ytojelhacelfjkaa.KB Go.Proofs.Ytojelhacelfjkaa.BB Go.Proofs.YtojelhacelfjkaaW.PrintWords Go.Proofs.YtojelhacelfjkaaW.PrintLast Go.Proofs.YtojelhacelfjkaaW.PrintMore

theorem KeysJoins : ∀ l m : List S52, ∃ k, concordancelaw01_KeysJoins.f k l m = some true := by
  intro l m
  have h : Ev (fun k => concordancelaw01_KeysJoins.f k l m) true := by
    have n1 := cuts_length l
    have n2 := cuts_length m
    have m1 : ((cuts l).map s36).length ≤ 10 := by rw [List.length_map]; exact n1
    have m2 : ((cuts m).map s36).length ≤ 10 := by rw [List.length_map]; exact n2
    unfold concordancelaw01_KeysJoins.f
    refine Ev.bind speaks ?_
    simp only [if_true]
    refine Ev.bind (both_f l) ?_
    refine Ev.bind (both_f m) ?_
    refine Ev.bind (put_both l) ?_
    refine Ev.bind (put_both m) ?_
    have c1 : ([] : List S36).length + ((cuts l).map s36).length < 4398046511104 := by rw [List.length_nil]; omega
    have c2 : ([] ++ (cuts l).map s36).length + ((cuts m).map s36).length < 4398046511104 := by rw [List.nil_append]; omega
    simp only [Option.bind_some, if_pos c1, if_pos c2]
    have hp := put_f ([] ++ (cuts l).map s36 ++ (cuts m).map s36) (by rw [List.nil_append, List.length_append]; omega)
    rw [List.nil_append, List.map_append, back36, back36] at hp
    refine Ev.bind hp ?_
    refine ⟨0, fun k _ => ?_⟩
    have l1 := putP_length (cuts l)
    have l2 := putP_length (cuts m)
    have z : (⟨#[]⟩ : ByteArray).toList = [] := by rw [Lib.toList_data]
    simp only [putR, putP_append]
    by_cases h1 : (putP (cuts l)).2 = 0
    · by_cases h2 : (putP (cuts m)).2 = 0
      · have c3 : (B (putP (cuts l)).1).size + (B (putP (cuts m)).1).size ≤ 9223372036854775807 := by rw [B_size, B_size]; omega
        simp only [if_pos h1, if_pos h2, if_true, if_pos c3, B_append, beq_self_eq_true]
      · simp only [if_pos h1, if_neg h2, B_nil, z]
        rfl
    · simp only [if_neg h1, B_nil, z]
      rfl
  exact h.rounds
end Go.Proofs.Ytojelhacelfjkaa.Pure

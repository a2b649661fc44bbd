/- A number's value and a text's, whatever they are: the pure statement. Condition: the text has at most 2^47 - 4096 bytes. -/
import Derived.Test.YtojelhacelfjkaaKeysSpeaks
import Derived.Test.YtojelhacelfjkaaKeysBase
import Derived.Test.YtojelhacelfjkaaPAx14
set_option linter.unusedVariables false
namespace Go.Proofs.Ytojelhacelfjkaa.Pure
open Go.RowKit Go.Proofs.Ytojelhacelfjkaa.PA Go.Proofs.Ytojelhacelfjkaa.BB Go.Proofs.Ytojelhacelfjkaa.KB Go.Proofs.YtojelhacelfjkaaW.PrintWords Go.Proofs.YtojelhacelfjkaaW.PrintLast Go.Proofs.YtojelhacelfjkaaW.PrintMore

theorem putP_one (v : PV) : (putP [v]).2 = okV v := by
  simp only [putP]
  by_cases h : okV v = 0
  · simp [h]
  · simp [h]

theorem ok_number (n : Int) : okV ⟨[], n, false⟩ = if -1099511627776 ≤ n ∧ n ≤ 1099511627776 then 0 else 1 := by
  unfold okV
  simp only [Bool.false_eq_true, false_and, if_false, ne_eq, not_true, and_false, false_or]
  by_cases h : -1099511627776 ≤ n ∧ n ≤ 1099511627776
  · rw [if_neg (by omega), if_pos h]
  · rw [if_pos (by omega), if_neg h]
theorem ok_text (l : List UInt8) : okV ⟨l, 0, true⟩ = if 20 < l.length then 6 else 0 := by
  unfold okV
  by_cases h : 20 < l.length
  · simp [h]
  · simp [h]

theorem KeysValues : concordancelaw01_KeysValues.Pure := by
  intro n s hn hs
  obtain ⟨K1, h1⟩ := speaks
  obtain ⟨K2, h2⟩ := put_f [(⟨⟨#[]⟩, n, false⟩ : S36)] (by simp)
  obtain ⟨K3, h3⟩ := put_f [(⟨s, 0, true⟩ : S36)] (by simp)
  obtain ⟨K, hK⟩ : ∃ K, K = K1 + K2 + K3 := ⟨_, rfl⟩
  refine ⟨K + 1, ?_⟩
  have e1 := h1 (K + 1) (by omega)
  have e2 := h2 (K + 1) (by omega)
  have e3 := h3 (K + 1) (by omega)
  simp only at e1 e2 e3
  have r2 : (putR ([(⟨⟨#[]⟩, n, false⟩ : S36)].map p36)).2 = if -1099511627776 ≤ n ∧ n ≤ 1099511627776 then 0 else 1 := by
    show (putP [(⟨[], n, false⟩ : PV)]).2 = _
    rw [putP_one, ok_number]
  have r3 : (putR ([(⟨s, 0, true⟩ : S36)].map p36)).2 = if 20 < s.size then 6 else 0 := by
    show (putP [(⟨s.data.toList, 0, true⟩ : PV)]).2 = _
    rw [putP_one, ok_text, sizeL]
  have c1 : keys_Compare.f (K + 1) ⟨#[]⟩ n false s 0 true = some (-1) := by
    unfold keys_Compare.f
    simp [keys_Compare.j0]
  have c2 : keys_Compare.f (K + 1) s 0 true ⟨#[]⟩ n false = some 1 := by
    unfold keys_Compare.f
    simp [keys_Compare.j0]
  have t1 : ((⟨#[]⟩ : ByteArray).toList == ([] : List UInt8) && (n == n && !false)) = true := by
    rw [Lib.toList_data]; simp
  have t2 : (s.toList == s.toList && ((0 : Int) == 0 && true)) = true := by simp
  unfold concordancelaw01_KeysValues.f
  rw [e1]
  simp only [Option.bind_some, if_true, keys_Number.f, keys_Text.f]
  rw [e2]
  simp only [Option.bind_some]
  rw [e3]
  simp only [Option.bind_some]
  rw [if_pos t1, if_pos t2, r2, r3, c1, c2]
  by_cases a : n ≥ -1099511627776
  · rw [if_pos a]
    have u : (((if -1099511627776 ≤ n ∧ n ≤ 1099511627776 then (0 : Int) else 1) == 0) == (decide (n ≤ 1099511627776))) = true := by
      by_cases b : n ≤ 1099511627776
      · rw [if_pos ⟨a, b⟩]; simp [b]
      · rw [if_neg (fun h => b h.2)]; simp [b]
    have u2 : (((if 20 < s.size then (6 : Int) else 0) == 0) == (decide ((s.size : Int) ≤ 20))) = true := by
      by_cases b : 20 < s.size
      · rw [if_pos b, decide_eq_false (by omega)]; rfl
      · rw [if_neg b, decide_eq_true (by omega)]; rfl
    rw [if_pos u, if_pos u2]
    simp
  · rw [if_neg a]
    have u : (((if -1099511627776 ≤ n ∧ n ≤ 1099511627776 then (0 : Int) else 1) == 0) == false) = true := by
      rw [if_neg (fun h => a h.1)]; rfl
    have u2 : (((if 20 < s.size then (6 : Int) else 0) == 0) == (decide ((s.size : Int) ≤ 20))) = true := by
      by_cases b : 20 < s.size
      · rw [if_pos b, decide_eq_false (by omega)]; rfl
      · rw [if_neg b, decide_eq_true (by omega)]; rfl
    rw [if_pos u, if_pos u2]
    simp

end Go.Proofs.Ytojelhacelfjkaa.Pure

/- The sum of any text, sealed, and opened, is the document's: the pure statement. Condition: a text has at most 2^47 - 4096 bytes. -/
import Derived.Test.YtdcnfekcbijfgaaDoorSumBase
namespace Go.Proofs.YtdcnfekcbijfgaaDoor.Pure
open Go.RowKit Go.Proofs.YtdcnfekcbijfgaaDoor.PA Go.Proofs.YtdcnfekcbijfgaaDoor.SB Go.Proofs.YtdcnfekcbijfgaaDoorW.PrintWords Go.Proofs.YtdcnfekcbijfgaaDoorW.PrintLast

theorem SumSums : concordancelaw02_SumSums.Pure := by
  intro a ha
  have hs : a.size ≤ 9223372036854775803 := by omega
  have hs2 : a.size ≤ 9223372036854775807 := by omega
  obtain ⟨t, ht, htl, _⟩ := seal_f a hs
  obtain ⟨u, hu, hul⟩ := refSeal a hs
  have ho := open_seal a t hs htl
  have hoa := open_f a hs2
  obtain ⟨K1, h1⟩ := speaks
  obtain ⟨K2, h2⟩ := refOpen a hs2
  obtain ⟨K3, h3⟩ := refSum a hs2
  obtain ⟨K4, h4⟩ := hu
  have hsum : sum_Sum.f a = some ((CrcPlain.crc a.data.toList : Nat) : Int) := by unfold sum_Sum.f; rw [if_pos hs2]
  refine ⟨K1 + K2 + K3 + K4, ?_⟩
  have e1 := h1 (K1 + K2 + K3 + K4) (by omega)
  have e2 := h2 (K1 + K2 + K3 + K4) (by omega)
  have e3 := h3 (K1 + K2 + K3 + K4) (by omega)
  have e4 := h4 (K1 + K2 + K3 + K4) (by omega)
  simp only at e1 e2 e3 e4
  have htu : t.toList = u.toList := by rw [Lib.toList_data, Lib.toList_data, htl, hul]
  unfold concordancelaw02_SumSums.f
  rw [e1]
  simp only [Option.bind_some, if_true]
  by_cases h3000 : (a.size : Int) > 3000
  · rw [if_pos h3000]
  · rw [if_neg h3000, ht]
    simp only [Option.bind_some]
    rw [ho]
    simp only [Option.bind_some]
    rw [hoa]
    simp only [Option.bind_some]
    rw [e2]
    simp only [Option.bind_some]
    rw [hsum]
    simp only [Option.bind_some]
    rw [e3]
    simp only [Option.bind_some, if_true]
    rw [e4]
    simp only [Option.bind_some]
    rw [if_pos htu]
    simp

end Go.Proofs.YtdcnfekcbijfgaaDoor.Pure

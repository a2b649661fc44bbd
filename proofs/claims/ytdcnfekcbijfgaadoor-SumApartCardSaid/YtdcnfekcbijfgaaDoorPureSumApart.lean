/- Two texts are sealed alike just where they are the same, and what is sealed twice is opened twice: the pure statement. Condition: a text has at most 2^47 - 4096 bytes. -/
import Derived.Test.YtdcnfekcbijfgaaDoorSumBase
import Derived.Test.YtdcnfekcbijfgaaDoorPAx3
namespace Go.Proofs.YtdcnfekcbijfgaaDoor.Pure
open Go.RowKit Go.Proofs.YtdcnfekcbijfgaaDoor.PA Go.Proofs.YtdcnfekcbijfgaaDoor.SB Go.Proofs.YtdcnfekcbijfgaaDoorW.PrintWords Go.Proofs.YtdcnfekcbijfgaaDoorW.PrintLast

theorem seal_inj {l m : List UInt8} (h : l ++ markL l = m ++ markL m) : l = m := by
  have hl : l.length = m.length := by
    have := congrArg List.length h
    rw [List.length_append, List.length_append, markL_length, markL_length] at this
    omega
  exact (List.append_inj h hl).1

theorem SumApart : concordancelaw02_SumApart.Pure := by
  intro a b ha hb
  obtain ⟨K1, h1⟩ := speaks
  obtain ⟨t, ht, htl, hts⟩ := seal_f a (by omega)
  obtain ⟨u, hu, hul, hus⟩ := seal_f t (by omega)
  obtain ⟨v, hv, hvl, hvs⟩ := seal_f b (by omega)
  have o1 := open_seal t u (by omega) hul
  have o2 := open_seal a t (by omega) htl
  have hE : (t.toList == v.toList) = (a.toList == b.toList) := by
    rw [Bool.eq_iff_iff, beq_iff_eq, beq_iff_eq, Lib.toList_data, Lib.toList_data, Lib.toList_data, Lib.toList_data, htl, hvl]
    exact ⟨seal_inj, fun h => by rw [h]⟩
  refine ⟨K1 + 1, ?_⟩
  have e1 := h1 (K1 + 1) (by omega)
  simp only at e1
  unfold concordancelaw02_SumApart.f
  rw [e1]
  simp only [Option.bind_some, if_true]
  by_cases c1 : (a.size : Int) > 1000
  · rw [if_pos c1]
    simp only [concordancelaw02_SumApart.j0]
    rw [if_pos trivial]
  · rw [if_neg c1]
    simp only [concordancelaw02_SumApart.j0]
    by_cases c2 : (b.size : Int) > 1000
    · rw [if_pos (decide_eq_true c2)]
    · rw [if_neg (by simpa using c2), ht]
      simp only [Option.bind_some]
      rw [hu]
      simp only [Option.bind_some]
      rw [o1]
      simp only [Option.bind_some]
      rw [o2]
      simp only [Option.bind_some]
      rw [hv]
      simp only [Option.bind_some]
      rw [hE]
      simp

end Go.Proofs.YtdcnfekcbijfgaaDoor.Pure

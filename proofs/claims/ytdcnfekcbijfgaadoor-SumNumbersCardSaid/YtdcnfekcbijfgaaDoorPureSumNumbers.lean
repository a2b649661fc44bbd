/- Any number in any count of bytes, and back, is the document's answer: the pure statement. Condition: the text has at most 2^47 - 4096 bytes. -/
import Derived.Test.YtdcnfekcbijfgaaDoorSumNum
namespace Go.Proofs.YtdcnfekcbijfgaaDoor.Pure
open Go.RowKit Go.Proofs.YtdcnfekcbijfgaaDoor.PA Go.Proofs.YtdcnfekcbijfgaaDoor.SB Go.Proofs.YtdcnfekcbijfgaaDoorW.PrintWords Go.Proofs.YtdcnfekcbijfgaaDoorW.PrintLast

/-- What has bytes gives its number back. -/
theorem get_put (n size : Int) (h : putL n size ≠ []) : ((getL (putL n size) : Nat) : Int) = n := by
  unfold putL at h ⊢
  by_cases hc : 1 ≤ size ∧ size ≤ 7 ∧ 0 ≤ n ∧ n.toNat < 256 ^ size.toNat
  · rw [if_pos hc]
    unfold getL
    rw [be_length, if_neg (by omega), num_be _ _ hc.2.2.2]
    omega
  · rw [if_neg hc] at h
    exact absurd rfl h

theorem SumNumbers : concordancelaw02_SumNumbers.Pure := by
  intro n size s hn hsize _
  have hb := wf_bounds hn
  obtain ⟨K1, h1⟩ := speaks
  obtain ⟨t, ⟨K2, h2⟩, htl⟩ := put_f n size hb.2
  obtain ⟨u, ⟨K3, h3⟩, hul⟩ := refPut_f n size hb.2
  obtain ⟨K4, h4⟩ := get_f t
  obtain ⟨K5, h5⟩ := get_f s
  obtain ⟨K6, h6⟩ := refGet_f s
  obtain ⟨K, hK⟩ : ∃ K, K = K1 + K2 + K3 + K4 + K5 + K6 := ⟨_, rfl⟩
  refine ⟨K + 1, ?_⟩
  have e1 := h1 (K + 1) (by omega)
  have e2 := h2 (K + 1) (by omega)
  have e3 := h3 (K + 1) (by omega)
  have e4 := h4 (K + 1) (by omega)
  have e5 := h5 K (by omega)
  have e6 := h6 K (by omega)
  simp only at e1 e2 e3 e4 e5 e6
  have htu : t.toList = u.toList := by rw [Lib.toList_data, Lib.toList_data, htl, hul]
  have hj : concordancelaw02_SumNumbers.j0 (K + 1) s false = some true := by
    simp only [concordancelaw02_SumNumbers.j0]
    rw [if_neg (by simp)]
    by_cases c : (s.size : Int) > 100
    · rw [if_pos c]
    · rw [if_neg c, e5]
      simp only [Option.bind_some]
      rw [e6]
      simp
  unfold concordancelaw02_SumNumbers.f
  rw [e1]
  simp only [Option.bind_some, if_true]
  rw [e2]
  simp only [Option.bind_some]
  rw [e3]
  simp only [Option.bind_some]
  rw [if_pos htu]
  by_cases h0 : t.toList = []
  · rw [if_pos h0, hj]
  · rw [if_neg h0, e4]
    simp only [Option.bind_some]
    have hne : putL n size ≠ [] := by
      intro e
      apply h0
      rw [Lib.toList_data, htl, e]
    have hg : ((getL t.data.toList : Nat) : Int) = n := by rw [htl]; exact get_put n size hne
    rw [hg, show (n != n) = false by simp, hj]

end Go.Proofs.YtdcnfekcbijfgaaDoor.Pure

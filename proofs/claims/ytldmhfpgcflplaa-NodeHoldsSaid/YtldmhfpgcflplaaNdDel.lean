import Derived.Test.YtldmhfpgcflplaaNdMk
set_option linter.unusedVariables false
set_option linter.unusedSimpArgs false
namespace Go.Proofs.Ytldmhfpgcflplaa
open Go Go.RowKit Go.Proofs.Ytldmhfpgcflplaa.PA Go.Proofs.YtldmhfpgcflplaaW.PrintWords NdP
/-- Cells behind a row's length may be written. -/
theorem own_behind {W : World} {base g n cap off : Nat} {l : List Ent} {seg : List Value} (h : OwN W base (.slice (some ⟨g, 0, none⟩) n cap) l) (ho : n * 3 ≤ off) (hfit : off + seg.length ≤ cap * 3) : OwN (W.setCells g off seg) base (.slice (some ⟨g, 0, none⟩) n cap) l := by
  obtain ⟨hok, inner, ⟨ho1, ho2⟩, hr⟩ := h
  rcases ho2 with ⟨hv, _⟩ | ⟨g', cap', cur, hv, hb, hh, hnc', hcm, hcs, ht⟩
  · cases hv
  have hvv := hv
  injection hv with ha hn2 hc
  injection ha with ha
  injection ha with hg
  subst hg; subst hc
  have hsz : cur.size = cap * 3 := hcs
  obtain ⟨cur', h3, h4, h5⟩ := setCells_row seg off W cur hh (by omega)
  refine ⟨hok, inner, ⟨ho1, .inr ⟨g, cap, cur', hvv, hb, h3, hnc', hcm, by rw [h4, hcs], ?_⟩⟩, ?_⟩
  · rw [h5, ← ht]
    have hk : (l.map c44).length * k44.sz ≤ off := by rw [← hn2]; exact ho
    have hoc : off ≤ cur.toList.length := by rw [Array.length_toList]; omega
    rw [List.append_assoc, List.take_append_of_le_length (by rw [List.length_take]; omega), List.take_take, Nat.min_eq_left hk]
  · refine hr.imp_ (fun x cs hM => ?_)
    have := k44_openM hM
    subst this
    exact k44_mkM _ _ _ _
end Go.Proofs.Ytldmhfpgcflplaa

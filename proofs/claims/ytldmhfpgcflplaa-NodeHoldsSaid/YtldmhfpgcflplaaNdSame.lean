/-
  Two nodes compared that are the same; contracts whose answer is known.
-/
import Derived.Test.YtldmhfpgcflplaaNdRIns
set_option linter.unusedVariables false
set_option linter.unusedSimpArgs false
namespace Go.Proofs.Ytldmhfpgcflplaa
open Go Go.RowKit Go.Proofs.Ytldmhfpgcflplaa.PA Go.Proofs.YtldmhfpgcflplaaW.PrintWords NdP

theorem same_l0 (l : List Ent) (hl : l.length ≤ 1000) (a b c d a' b' c' d' : Int) (h h' : ByteArray) : ∀ m i, i + m = l.length → ∀ k, m < k →
    concordancelaw13_same.l0 k (i : Int) a b c d h (l.map c44) a' b' c' d' h' (l.map c56) = some true := by
  intro m
  induction m with
  | zero =>
    intro i hi k hk
    obtain ⟨k, rfl⟩ : ∃ n, k = n + 1 := ⟨k - 1, by omega⟩
    rw [concordancelaw13_same.l0, if_neg (by simp; omega)]
  | succ m ih =>
    intro i hi k hk
    obtain ⟨k, rfl⟩ : ∃ n, k = n + 1 := ⟨k - 1, by omega⟩
    obtain ⟨e, he⟩ : ∃ e, l[i]? = some e := ⟨l[i]'(by omega), List.getElem?_eq_getElem (by omega)⟩
    rw [concordancelaw13_same.l0, if_pos (by simp; omega), if_pos (by omega), if_pos (by simp; omega), rd44 he, rd56 he, if_neg (by simp [c44, c56]), w1 (by omega)]
    exact ih (i + 1) (by omega) k (by omega)
theorem same_c (p : Pg) {s t : Value} (w : World) (hl : p.es.length ≤ 1000) (hr : RdN w s p.es) (hq : RdQ w t p.es) : Calls Try.prog 13 #[pgV p s, pgV p t] w fun e w' => e = .returned (.bool true) ∧ Below w.heap.size w w' := by
  obtain ⟨A, c, rfl, hc, hm, hC⟩ := hr
  obtain ⟨A', c', rfl, hc', hm', hC'⟩ := hq
  have hk : concordancelaw13_same.f (p.es.length + 2) p.lsn p.kind p.level p.right p.high (p.es.map c44) p.lsn p.kind p.level p.right p.high (p.es.map c56) = some true := by
    unfold concordancelaw13_same.f
    rw [if_pos rfl, if_pos rfl, if_pos rfl, if_pos rfl, if_pos rfl, concordancelaw13_same.j0, if_neg (by simp)]
    exact same_l0 p.es hl _ _ _ _ _ _ _ _ _ _ p.es.length 0 (by omega) _ (by omega)
  have := concordancelaw13_same.calls (p.es.length + 2) p.lsn p.kind p.level p.right p.high A c (p.es.map c44) p.lsn p.kind p.level p.right p.high A' c' (p.es.map c56) _ w hC (by simpa using hc) hC' (by simpa using hc') hk
  rw [List.length_map, List.length_map] at this
  exact this
theorem right_t (p : Pg) {s : Value} (w : World) (hs : Small p.es) (hr : RdN w s p.es) (h : RightP p) : Calls Try.prog 14 #[pgV p s] w fun x w' => x = .returned (.bool true) ∧ Below w.heap.size w w' :=
  (right_c p w hs hr).mono fun x w' ⟨r, hx, hrp, hb⟩ => ⟨by rw [hx, hrp.2 h], hb⟩
end Go.Proofs.Ytldmhfpgcflplaa

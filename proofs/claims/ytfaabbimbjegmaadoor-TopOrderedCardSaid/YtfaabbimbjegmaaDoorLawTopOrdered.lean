/- Values that are sorted by their keys, put into a page as entries, and read back from its bytes, are in the order of the values, all of them, whatever they are: the law answers true at every input. Conditions: the row's own (the table sum.turns laid by the program's start, tied by the card). -/
import Derived.Test.YtfaabbimbjegmaaDoorRows
import Derived.Test.YtfaabbimbjegmaaDoorTie
import Derived.Test.YtfaabbimbjegmaaDoorCards
import Derived.LaidMore
import Derived.Lay
import Derived.Stop.Joined
import Derived.Lib.LaidTab
import Derived.SevenTiedAt
import Derived.Test.YtfaabbimbjegmaaDoorTpU
import Derived.Test.YtfaabbimbjegmaaDoorTpO
import Derived.WalkKit
import Derived.ProofKit
import Derived.OpenShut
import Derived.ChangeOld
import Derived.Below
import Derived.Carry
import Derived.SizedLaws
set_option linter.unusedVariables false
set_option linter.unusedSimpArgs false
namespace Go.Proofs.YtfaabbimbjegmaaDoor.topOrdered
open Go.ChangeShapes Go.WideShapes Go.ChangeAt Go.RowKit Go.Joins Go.Proofs.YtfaabbimbjegmaaDoor.TP
abbrev laidL : List (String × DataW Unit) := [("concordance/sum.turns", Rows.laid_concordance_sum_turns), ("unicode/utf8.acceptRanges", Rows.laid_unicode_utf8_acceptRanges), ("unicode/utf8.first", Rows.laid_unicode_utf8_first)]
theorem gNo : Tryd.prog.globalNamed "concordance/sum.turns" = some 1 := by kernel_rfl
theorem gType : (Tryd.prog.globals[1]?).map (·.type) = some 129 := by kernel_rfl
theorem cellsE : Tryd.prog.cellsOf 109 = 1 := by kernel_rfl
theorem cellsT : Tryd.prog.cellsOf 129 = 16 := by kernel_rfl
theorem turns_of {W : World} (h : laidMetH Tryd.prog laidL W) : PA.LaidT W := by
  rw [MakeChecks.laidMetH_plain _ _ _ (by kernel_rfl)] at h
  have hT := Lib.tabIs_of_head (k := .u32) (zs := CrcPlain.tab.map fun (x : Nat) => (x : Int)) gNo gType Tryd.underlying129 Tryd.underlying109 cellsE cellsT h
  have e : ∀ i, i < 16 → (CrcPlain.tab.map fun (x : Nat) => (x : Int)).getD i 0 = ((CrcPlain.tab.getD i 0 : Nat) : Int) := by decide
  have hc : ∀ i, i < 16 → W.cell? ⟨1, i, none⟩ = some (.int .u32 ((CrcPlain.tab.getD i 0 : Nat) : Int)) := fun i hi => by
    rw [← e i hi]; exact hT.cell gNo i (by simpa [CrcPlain.tab] using hi)
  exact ⟨World.block_lt_of_cell? W _ (hc 0 (by decide)), hc⟩
theorem own : ownKnob Tryd.prog.godebug = none := by kernel_rfl
set_option maxRecDepth 100000 in
theorem lifted (os : Os) (started : os.Started) (H : Type) (enc : TypeId × Value → H) :
    ReturnsInHanded {} Tryd.checked os 3 .any (fun w args => (Rows.topOrderedSpec.pre enc Tryd.prog Tryd.f3 [] false w args ∧ laidMetH Tryd.prog laidL w) ∧ sizedMet enc Tryd.prog Tryd.f3 (OpenSpec.ofChange Rows.topOrderedSpec) false w args) (Rows.topOrderedSpec.post enc Tryd.prog Tryd.f3 false true false false) := by
  refine returnsInHanded_of_change_and (C := Tryd.checked) (X := fun w _ => laidMetH Tryd.prog laidL w) (fun _ _ _ hh h => h.of_heap hh) own started (by kernel_rfl) Tryd.func3
    (ChangeSpec.witness_shaped (enc := enc) (C := Tryd.checked) (os := os) (X := fun w _ => laidMetH Tryd.prog laidL w) false (World.laidAll Tryd.prog os laidL) #[.slice none 0 0] 8 (World.laidAll_os _ _ _)
      (World.shaped_of_ZipB (by kernel_rfl) (by kernel_rfl)) (by kernel_rfl) (by kernel_rfl) (by kernel_rfl)
      (by rw [MakeChecks.laidMetH_plain _ _ _ (by kernel_rfl)]; exact laidMet_laidAll _ (by kernel_rfl) (by kernel_rfl))) ?_
  intro W base args ds gs before hval0 hW _ hsz0 hL _
  have hval : ∀ (j : Nat) t v, Tryd.f3.params[j]? = some t → args[j]? = some v → Value.okWide Tryd.prog W .any base t v := hval0
  have hW' := hW
  obtain ⟨p, q, hA0, hV, rfl, hfz, hnd⟩ := hW
  have hA : DataW.TrodAll enc Tryd.prog W 0 (fun _ => true) true Tryd.f3.params.toList args.toList ds p := hA0
  rw [Tryd.params3] at hA hval
  obtain ⟨v0, vs0, d0, ds0, p0, q0, hargs, rfl, rfl, h0, r0⟩ := trodAll_cons hA
  obtain ⟨rfl, rfl, rfl⟩ := trodAll_nil r0
  obtain rfl : args = #[v0] := by cases args; simp_all
  obtain ⟨rfl, rfl⟩ := trodVars_none hV
  have k0 := h0
  have lt0 : ∀ x ∈ p0, x.block < W.heap.size := by obtain ⟨m, hm⟩ := k0; exact DataW.trod_lt m _ _ _ hm
  obtain ⟨a0, len0, cap0, rfl⟩ := okWide_slice Tryd.underlying22 (hval 0 22 v0 rfl rfl)
  obtain ⟨l0, rfl, hm0, hr0⟩ : ∃ l : List V, len0 = l.length ∧ l.length ≤ 9223372036854775807 ∧ RdV W (.slice a0 l.length cap0) l := by
    obtain ⟨fuel, hf⟩ := h0
    obtain ⟨A, l, c, hcs, hl, hC⟩ := openV hf
    simp [Value.cells] at hcs
    obtain ⟨rfl, rfl, rfl⟩ := hcs
    exact ⟨l, rfl, hl, hC⟩
  clear hA0 hval0 hsz0
  refine (TP.ordered_c hm0 hr0 (turns_of hL)).mono fun e W' ⟨he, bel⟩ => ?_
  subst he
  exact ⟨_, rfl, _, _, _, [], _, [], hW', trodAll_mk1 (shut_bool Tryd.underlying4 _), (trodAll_cons_mk (Below.trod laidOut (by kernel_rfl) (of_decide_eq_true (by kernel_rfl)) k0 bel lt0) trodAll_mk0), rfl, bel.frame _, fun h => by cases h⟩
theorem over : Rows.topOrderedRow.holds Tryd.pinned (OpenSpec.ofChange Rows.topOrderedSpec) :=
  OpenClaim.holds_of_wide 3 Tryd.f3 rfl rfl rfl rfl rfl rfl rfl ⟨rfl, rfl, rfl, rfl, rfl⟩ rfl rfl rfl rfl rfl (by kernel_rfl) Tryd.func3 (by kernel_rfl)
    (of_decide_eq_true (by kernel_rfl)) (by unfold Func.isWrapper; first | (rw [if_pos (by decide +kernel)]; kernel_rfl) | (rw [if_neg (by decide +kernel)]; exact ⟨rfl, rfl⟩))
    (fun os started H enc _ => lifted os started H enc)
theorem proved : Rows.TopOrderedSaid := over
end Go.Proofs.YtfaabbimbjegmaaDoor.topOrdered
namespace Go.Proofs.YtfaabbimbjegmaaDoor
/-- The row, under a short name, for the claim. -/
theorem topOrdered_holds : Rows.TopOrderedCardSaid :=
  Claim7.holds_tied_plain_at .later [] [.data, .data, .pinned] true (true, "6087cb50ba547ed742622762a6b5a34162ec3b4d620967ca89a3d0b216d433e9") false
    topOrdered.proved (fun _ h => by cases h) (by kernel_rfl) (fun _ h => by cases h) topOrdered_row_tie rfl ⟨rfl, rfl⟩ (by kernel_rfl) rfl
    (fun f fn hf hfn => by
      obtain rfl : f = 3 := Option.some.inj ((show Tryd.prog.funcNamed "concordance/concordancetop.TopOrdered" = some 3 by kernel_rfl).symm.trans hf) |>.symm
      obtain rfl : fn = Tryd.f3 := (Option.some.inj (Tryd.func3.symm.trans hfn)).symm
      exact ⟨by kernel_rfl, fun j t ht => by
        rw [Tryd.params3] at ht
        have hm : t ∈ [22] := by simpa using Array.mem_of_getElem? ht
        have hall : ([22].all fun u => !Tryd.prog.wantsStandIn u) = true := by kernel_rfl
        exact (show Tryd.prog.wantsStandIn t = false by simpa using List.all_eq_true.1 hall t hm)⟩)
    (by kernel_rfl)
#print axioms topOrdered_holds
end Go.Proofs.YtfaabbimbjegmaaDoor

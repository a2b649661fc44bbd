/- What was sealed, and of which one byte to four in a row were changed, is not opened: the law answers true at every input. Conditions: the row's own (each text within the model's reach; the table sum.turns laid by the program's start, tied by the card). -/
import Derived.Test.YtdcnfekcbijfgaaDoorRows
import Derived.Test.YtdcnfekcbijfgaaDoorTie
import Derived.Test.YtdcnfekcbijfgaaDoorCards
import Derived.LaidMore
import Derived.Stop.Joined
import Derived.Lib.LaidTab
import Derived.SevenTiedAt
import Derived.Test.YtdcnfekcbijfgaaDoorSpoiltWalk
import Derived.WalkKit
import Derived.ProofKit
import Derived.OpenShut
import Derived.ShutString
import Derived.ChangeOld
import Derived.Below
import Derived.SizedLaws
namespace Go.Proofs.YtdcnfekcbijfgaaDoor.sumSpoilt
open Go.ChangeShapes Go.WideShapes Go.ChangeAt Go.RowKit
open Go.ChangeMaps (open_string shut_string)
set_option linter.unusedVariables false
set_option linter.unusedSimpArgs false
abbrev laidL : List (String × DataW Unit) := [("concordance/sum.turns", Rows.laid_concordance_sum_turns)]
theorem gNo : Tryd.prog.globalNamed "concordance/sum.turns" = some 0 := by kernel_rfl
theorem gType : (Tryd.prog.globals[0]?).map (·.type) = some 40 := by kernel_rfl
theorem cellsE : Tryd.prog.cellsOf 29 = 1 := by kernel_rfl
theorem cellsT : Tryd.prog.cellsOf 40 = 16 := by kernel_rfl
theorem door_met (os : Os) (args : Array Value) : laidMetH Tryd.prog laidL ((World.doorLaid Tryd.prog 400 os).forCall (fun _ _ => 0) ⟨#[], args, []⟩).memory :=
  laidMetH_of_parts3 (fuel := 8) (laidMet_of_run' 8 (by kernel_rfl) (by kernel_rfl)) (by kernel_rfl) (by kernel_rfl)
theorem turns_of {W : World} (h : laidMetH Tryd.prog laidL W) : PA.LaidT W := by
  rw [MakeChecks.laidMetH_plain _ _ _ (by kernel_rfl)] at h
  have hT := Lib.tabIs_of_head (k := .u32) (zs := CrcPlain.tab.map fun (x : Nat) => (x : Int)) gNo gType Tryd.underlying40 Tryd.underlying29 cellsE cellsT h
  have e : ∀ i, i < 16 → (CrcPlain.tab.map fun (x : Nat) => (x : Int)).getD i 0 = ((CrcPlain.tab.getD i 0 : Nat) : Int) := by decide
  have hc : ∀ i, i < 16 → W.cell? ⟨0, i, none⟩ = some (.int .u32 ((CrcPlain.tab.getD i 0 : Nat) : Int)) := fun i hi => by
    rw [← e i hi]; exact hT.cell gNo i (by simpa [CrcPlain.tab] using hi)
  exact ⟨World.block_lt_of_cell? W _ (hc 0 (by decide)), hc⟩
theorem own : ownKnob Tryd.prog.godebug = none := by kernel_rfl
set_option maxRecDepth 100000 in
theorem lifted (os : Os) (started : os.Started) (H : Type) (enc : TypeId × Value → H) :
    ReturnsInHanded {} Tryd.checked os 5 .any (fun w args => (Rows.sumSpoiltSpec.pre enc Tryd.prog Tryd.f5 [] false w args ∧ laidMetH Tryd.prog laidL w) ∧ sizedMet enc Tryd.prog Tryd.f5 (OpenSpec.ofChange Rows.sumSpoiltSpec) false w args) (Rows.sumSpoiltSpec.post enc Tryd.prog Tryd.f5 false true false false) := by
  refine returnsInHanded_of_change_and (C := Tryd.checked) (X := fun w _ => laidMetH Tryd.prog laidL w) (fun _ _ _ hh h => h.of_heap hh) own started (by kernel_rfl) Tryd.func5
    (ChangeSpec.witness_shaped (enc := enc) (C := Tryd.checked) (os := os) (X := fun w _ => laidMetH Tryd.prog laidL w) false (World.doorLaid Tryd.prog 400 os) #[.string ByteArray.empty, .int .i64 0, .int .u32 0] 8 rfl (World.shaped_of_RefB (by kernel_rfl) (by kernel_rfl)) (by kernel_rfl) (by kernel_rfl) (by kernel_rfl) (door_met os _)) ?_
  intro W base args ds gs before hval0 hW _ hsz0 hL _
  have hsz : (DataW.weightsEach Tryd.prog (Tryd.f5.params.toList ++ Rows.sumSpoiltSpec.plain.varTypes Tryd.prog) (ds ++ gs)).all (· ≤ reachBytes) = true := hsz0
  have hval : ∀ (j : Nat) t v, Tryd.f5.params[j]? = some t → args[j]? = some v → Value.okWide Tryd.prog W .any base t v := hval0
  have hW' := hW
  obtain ⟨p, q, hA0, hV, rfl, hfz, hnd⟩ := hW
  have hA : DataW.TrodAll enc Tryd.prog W 0 (fun _ => true) true Tryd.f5.params.toList args.toList ds p := hA0
  rw [Tryd.params5] at hA hval hsz
  obtain ⟨v0, vs0, d0, ds0, p0, q0, hargs, rfl, rfl, h0, r0⟩ := trodAll_cons hA
  obtain ⟨v1, vs1, d1, ds1, p1, q1, rfl, rfl, rfl, h1, r1⟩ := trodAll_cons r0
  obtain ⟨v2, vs2, d2, ds2, p2, q2, rfl, rfl, rfl, h2, r2⟩ := trodAll_cons r1
  obtain ⟨rfl, rfl, rfl⟩ := trodAll_nil r2
  obtain rfl : args = #[v0, v1, v2] := by cases args; simp_all
  obtain ⟨rfl, rfl⟩ := trodVars_none hV
  obtain ⟨a0, rfl, rfl, rfl, y0⟩ := open_string Tryd.underlying9 (hval 0 9 v0 rfl rfl) h0
  have w0 : a0.size ≤ 140737488351232 := by
    have z := sized_string hsz (j := 0) (t := 9) rfl rfl
    rw [Array.length_toList] at z
    exact z
  obtain ⟨a1, rfl, rfl, rfl, w1⟩ := open_int Tryd.underlying3 (hval 1 3 v1 rfl rfl) h1
  obtain ⟨a2, rfl, rfl, rfl, w2⟩ := open_int Tryd.underlying29 (hval 2 29 v2 rfl rfl) h2
  have b2 : 0 ≤ a2 ∧ a2 < 4294967296 := by
    have z := w2
    simp only [Lit.wf, IntKind.min, IntKind.max, IntKind.signed, IntKind.bits, Bool.and_eq_true, decide_eq_true_eq] at z
    simp at z
    omega
  clear hA0 hval0 hsz0 hsz
  refine (SB.spoilt_walk a0 a1 a2 W w0 b2.1 b2.2 (SB.wf_bounds w1) (turns_of hL)).mono fun e W' ⟨he, bel⟩ => ?_
  subst he
  exact ⟨_, rfl, _, _, _, [], _, [], hW', trodAll_mk1 (shut_bool Tryd.underlying4 _), (trodAll_cons_mk (shut_string Tryd.underlying9 y0) (trodAll_cons_mk (shut_int Tryd.underlying3 w1) (trodAll_cons_mk (shut_int Tryd.underlying29 w2) trodAll_mk0))), rfl, bel.frame _, fun h => by cases h⟩
theorem over : Rows.sumSpoiltRow.holds Tryd.pinned (OpenSpec.ofChange Rows.sumSpoiltSpec) :=
  OpenClaim.holds_of_wide 5 Tryd.f5 rfl rfl rfl rfl rfl rfl rfl ⟨rfl, rfl, rfl, rfl, rfl⟩ rfl rfl rfl rfl rfl (by kernel_rfl) Tryd.func5 (by kernel_rfl)
    (of_decide_eq_true (by kernel_rfl)) (by unfold Func.isWrapper; first | (rw [if_pos (by decide +kernel)]; kernel_rfl) | (rw [if_neg (by decide +kernel)]; exact ⟨rfl, rfl⟩))
    (fun os started H enc _ => lifted os started H enc)
theorem proved : Rows.SumSpoiltSaid := over
#print axioms proved
end Go.Proofs.YtdcnfekcbijfgaaDoor.sumSpoilt
namespace Go.Proofs.YtdcnfekcbijfgaaDoor
/-- The row, under a short name, for the claim. -/
theorem sumSpoilt_holds : Rows.SumSpoiltCardSaid :=
  Claim7.holds_tied_plain_at .later [] [.data] true (true, "f86cea509f5256fbf1a9f4b2fc2df8378408b25320bda5881a9374fa5a1e96ae") false
    sumSpoilt.proved (fun _ h => by cases h) (by kernel_rfl) (fun _ h => by cases h) sumSpoilt_row_tie rfl ⟨rfl, rfl⟩ (by kernel_rfl) rfl
    (fun f fn hf hfn => by
      obtain rfl : f = 5 := Option.some.inj ((show Tryd.prog.funcNamed "concordance/concordancelaw02.SumSpoilt" = some 5 by kernel_rfl).symm.trans hf) |>.symm
      obtain rfl : fn = Tryd.f5 := (Option.some.inj (Tryd.func5.symm.trans hfn)).symm
      exact ⟨by kernel_rfl, fun j t ht => by
        rw [Tryd.params5] at ht
        have hm : t ∈ [9, 3, 29] := by simpa using Array.mem_of_getElem? ht
        have hall : ([9, 3, 29].all fun u => !Tryd.prog.wantsStandIn u) = true := by kernel_rfl
        exact (show Tryd.prog.wantsStandIn t = false by simpa using List.all_eq_true.1 hall t hm)⟩)
    (by kernel_rfl)
#print axioms sumSpoilt_holds
end Go.Proofs.YtdcnfekcbijfgaaDoor

/-
  No cell of these rows narrows 'for every input' (looked for: loops, veiled, ifaces, maps, wideKeys, modest, calm, conditions, laid).
  DERIVED. THE GIVEN ROWS OF THIS SEAT. 5 by the template 'for every input the law returns true; each argument reads behind the call as it read before'; 0 by the template 'total and deterministic' (their statements: YtldmhfpgcflplaaTotals.lean).
  GIVEN WITH THE SEED: the statements are not yours to turn. If you find one false, say at which input.
  Laid BY PROGRAM, IN A SANDBOX (cutbox-rows.mjs): the forced cells as the released guide's own fill.sh prints them over the translation 538578abb3055638… (all of the seat's roots in one cut). By AI agents, Wed Nov 11 2026. No macro, syntax, notation, axiom, sorry.
-/
import Derived.Test.YtldmhfpgcflplaaChecked
import GoSem.Claim
import GoSem.ClaimJoined
import GoSem.ClaimMapViews
import Derived.JoinedTies
import Derived.KernelRfl
namespace Go.Proofs.Ytldmhfpgcflplaa
/- THE CELL 'sum', in the pinned program and in every row, IS THE sha256 OF THE DUMP (.gsa) THAT YtldmhfpgcflplaaProg.lean LOADS. Nothing in Lean hashes anything: it is a label: what it is worth is what the hold of that sum in a sandbox is worth. -/
noncomputable def Try.pinned : Pinned := { name := "ytldmhfpgcflplaa", sum := "538578abb3055638ae86f20a4b86fe299a9dd914362f2f7fad46ceee185fc37b", checked := Try.checked }
namespace Rows
def none {H : Type} : Left H := { results := [], args := [] }

/-- 'concordancelaw13.NodeSplits': WHATEVER THE INPUT: true; the input reads as it did. -/
def nodeSplitsSpec : ChangeSpec := { name := "nodeSplits", fn := fun _ => fun
  | [d1, d2] => { results := [.lit (.bool true)], args := [d1, d2] }
  | _ => none }
def nodeSplitsRow : OpenClaim := { program := "ytldmhfpgcflplaa", sum := "538578abb3055638ae86f20a4b86fe299a9dd914362f2f7fad46ceee185fc37b", func := "concordance/concordancelaw13.NodeSplits", spec := "nodeSplits", inPlace := ["internal/bytealg.abigen_runtime_cmpstring"], unfollowed := true, recurses := true, apart := false }
def NodeSplitsSaid : Prop := nodeSplitsRow.holds Try.pinned (OpenSpec.ofChange nodeSplitsSpec)

/-- ITS FALSE NEIGHBOUR: 'it returns false'. Refute it at one input. -/
def nodeSplitsWrong : ChangeSpec := { name := "nodeSplits", fn := fun _ => fun
  | [d1, d2] => { results := [.lit (.bool false)], args := [d1, d2] }
  | _ => none }
def NodeSplitsWrongFalsely : Prop := nodeSplitsRow.holds Try.pinned (OpenSpec.ofChange nodeSplitsWrong)

/-- 'concordancelaw13.NodeTurned': WHATEVER THE INPUT: true; the input reads as it did. -/
def nodeTurnedSpec : ChangeSpec := { name := "nodeTurned", fn := fun _ => fun
  | [d] => { results := [.lit (.bool true)], args := [d] }
  | _ => none }
def nodeTurnedRow : OpenClaim := { program := "ytldmhfpgcflplaa", sum := "538578abb3055638ae86f20a4b86fe299a9dd914362f2f7fad46ceee185fc37b", func := "concordance/concordancelaw13.NodeTurned", spec := "nodeTurned", inPlace := ["internal/bytealg.abigen_runtime_cmpstring"], unfollowed := true, recurses := true, apart := false }
def NodeTurnedSaid : Prop := nodeTurnedRow.holds Try.pinned (OpenSpec.ofChange nodeTurnedSpec)

/-- ITS FALSE NEIGHBOUR: 'it returns false'. Refute it at one input. -/
def nodeTurnedWrong : ChangeSpec := { name := "nodeTurned", fn := fun _ => fun
  | [d] => { results := [.lit (.bool false)], args := [d] }
  | _ => none }
def NodeTurnedWrongFalsely : Prop := nodeTurnedRow.holds Try.pinned (OpenSpec.ofChange nodeTurnedWrong)

/-- 'concordancelaw13.NodeHolds': WHATEVER THE INPUT: true; the input reads as it did. -/
def nodeHoldsSpec : ChangeSpec := { name := "nodeHolds", fn := fun _ => fun
  | [d] => { results := [.lit (.bool true)], args := [d] }
  | _ => none }
def nodeHoldsRow : OpenClaim := { program := "ytldmhfpgcflplaa", sum := "538578abb3055638ae86f20a4b86fe299a9dd914362f2f7fad46ceee185fc37b", func := "concordance/concordancelaw13.NodeHolds", spec := "nodeHolds", inPlace := ["internal/bytealg.abigen_runtime_cmpstring"], unfollowed := true, recurses := true, apart := false }
def NodeHoldsSaid : Prop := nodeHoldsRow.holds Try.pinned (OpenSpec.ofChange nodeHoldsSpec)

/-- ITS FALSE NEIGHBOUR: 'it returns false'. Refute it at one input. -/
def nodeHoldsWrong : ChangeSpec := { name := "nodeHolds", fn := fun _ => fun
  | [d] => { results := [.lit (.bool false)], args := [d] }
  | _ => none }
def NodeHoldsWrongFalsely : Prop := nodeHoldsRow.holds Try.pinned (OpenSpec.ofChange nodeHoldsWrong)

/-- 'concordancelaw13.NodeChanges': WHATEVER THE INPUT: true; the input reads as it did. -/
def nodeChangesSpec : ChangeSpec := { name := "nodeChanges", fn := fun _ => fun
  | [d1, d2, d3] => { results := [.lit (.bool true)], args := [d1, d2, d3] }
  | _ => none }
def nodeChangesRow : OpenClaim := { program := "ytldmhfpgcflplaa", sum := "538578abb3055638ae86f20a4b86fe299a9dd914362f2f7fad46ceee185fc37b", func := "concordance/concordancelaw13.NodeChanges", spec := "nodeChanges", inPlace := ["internal/bytealg.abigen_runtime_cmpstring"], unfollowed := true, recurses := true, apart := false }
def NodeChangesSaid : Prop := nodeChangesRow.holds Try.pinned (OpenSpec.ofChange nodeChangesSpec)

/-- ITS FALSE NEIGHBOUR: 'it returns false'. Refute it at one input. -/
def nodeChangesWrong : ChangeSpec := { name := "nodeChanges", fn := fun _ => fun
  | [d1, d2, d3] => { results := [.lit (.bool false)], args := [d1, d2, d3] }
  | _ => none }
def NodeChangesWrongFalsely : Prop := nodeChangesRow.holds Try.pinned (OpenSpec.ofChange nodeChangesWrong)

/-- 'concordancelaw13.NodeBack': WHATEVER THE INPUT: true; the input reads as it did. -/
def nodeBackSpec : ChangeSpec := { name := "nodeBack", fn := fun _ => fun
  | [d1, d2] => { results := [.lit (.bool true)], args := [d1, d2] }
  | _ => none }
def nodeBackRow : OpenClaim := { program := "ytldmhfpgcflplaa", sum := "538578abb3055638ae86f20a4b86fe299a9dd914362f2f7fad46ceee185fc37b", func := "concordance/concordancelaw13.NodeBack", spec := "nodeBack", inPlace := ["internal/bytealg.abigen_runtime_cmpstring"], unfollowed := true, recurses := true, apart := false }
def NodeBackSaid : Prop := nodeBackRow.holds Try.pinned (OpenSpec.ofChange nodeBackSpec)

/-- ITS FALSE NEIGHBOUR: 'it returns false'. Refute it at one input. -/
def nodeBackWrong : ChangeSpec := { name := "nodeBack", fn := fun _ => fun
  | [d1, d2] => { results := [.lit (.bool false)], args := [d1, d2] }
  | _ => none }
def NodeBackWrongFalsely : Prop := nodeBackRow.holds Try.pinned (OpenSpec.ofChange nodeBackWrong)

/- THE SECOND FORM. 'bulk': how many values and letters a reading holds, each counted each time it is reached (what is shared counts as often as it is met; a slice's spare places count too). A statement '..UptoSaid' is the law's where the arguments, and the package variables that the reading takes, are together of bulk at most 1048576: NARROWER than '..Said'. Prove '..Said' where nothing that the law and all that it calls make is longer than what came in: it says more and counts as full. Else prove '..UptoSaid'. A law counts once. -/
mutual
def uptoBulk {H : Type} : DataW H → Nat
  | .lit (.string bytes) => bytes.length + 1
  | .lit _ => 1
  | .nil => 1
  | .ptr d => uptoBulk d + 1
  | .slice elems spare => uptoBulkAll elems + uptoBulkAll spare + 1
  | .agg parts => uptoBulkAll parts + 1
  | .iface _ d => uptoBulk d + 1
  | .map entries => uptoBulkEntries entries + 1
  | .held _ => 1
def uptoBulkAll {H : Type} : List (DataW H) → Nat
  | [] => 0
  | d :: r => uptoBulk d + uptoBulkAll r
def uptoBulkEntries {H : Type} : List (Lit × DataW H) → Nat
  | [] => 0
  | x :: r => uptoBulkEntry x + uptoBulkEntries r
def uptoBulkEntry {H : Type} : Lit × DataW H → Nat
  | (.string bytes, d) => bytes.length + uptoBulk d + 1
  | (_, d) => uptoBulk d + 1
 end
def uptoSmall : (H : Type) → List (DataW H) → Bool := fun _ ds => decide (uptoBulkAll ds ≤ 1048576)
def OpenSpec.upto (s : _root_.Go.ChangeSpec) : _root_.Go.OpenSpec := { _root_.Go.OpenSpec.ofChange s with cond := some uptoSmall }

/-- 'concordancelaw13.NodeSplits', WHERE WHAT IT READS IS OF BULK AT MOST 1048576: true; the input reads as it did. -/
def nodeSplitsUptoRow : OpenClaim := { program := "ytldmhfpgcflplaa", sum := "538578abb3055638ae86f20a4b86fe299a9dd914362f2f7fad46ceee185fc37b", func := "concordance/concordancelaw13.NodeSplits", spec := "nodeSplits", inPlace := ["internal/bytealg.abigen_runtime_cmpstring"], unfollowed := true, recurses := true, apart := false, narrowed := true }
def NodeSplitsUptoSaid : Prop := nodeSplitsUptoRow.holds Try.pinned (OpenSpec.upto nodeSplitsSpec)

/-- 'concordancelaw13.NodeTurned', WHERE WHAT IT READS IS OF BULK AT MOST 1048576: true; the input reads as it did. -/
def nodeTurnedUptoRow : OpenClaim := { program := "ytldmhfpgcflplaa", sum := "538578abb3055638ae86f20a4b86fe299a9dd914362f2f7fad46ceee185fc37b", func := "concordance/concordancelaw13.NodeTurned", spec := "nodeTurned", inPlace := ["internal/bytealg.abigen_runtime_cmpstring"], unfollowed := true, recurses := true, apart := false, narrowed := true }
def NodeTurnedUptoSaid : Prop := nodeTurnedUptoRow.holds Try.pinned (OpenSpec.upto nodeTurnedSpec)

/-- 'concordancelaw13.NodeHolds', WHERE WHAT IT READS IS OF BULK AT MOST 1048576: true; the input reads as it did. -/
def nodeHoldsUptoRow : OpenClaim := { program := "ytldmhfpgcflplaa", sum := "538578abb3055638ae86f20a4b86fe299a9dd914362f2f7fad46ceee185fc37b", func := "concordance/concordancelaw13.NodeHolds", spec := "nodeHolds", inPlace := ["internal/bytealg.abigen_runtime_cmpstring"], unfollowed := true, recurses := true, apart := false, narrowed := true }
def NodeHoldsUptoSaid : Prop := nodeHoldsUptoRow.holds Try.pinned (OpenSpec.upto nodeHoldsSpec)

/-- 'concordancelaw13.NodeChanges', WHERE WHAT IT READS IS OF BULK AT MOST 1048576: true; the input reads as it did. -/
def nodeChangesUptoRow : OpenClaim := { program := "ytldmhfpgcflplaa", sum := "538578abb3055638ae86f20a4b86fe299a9dd914362f2f7fad46ceee185fc37b", func := "concordance/concordancelaw13.NodeChanges", spec := "nodeChanges", inPlace := ["internal/bytealg.abigen_runtime_cmpstring"], unfollowed := true, recurses := true, apart := false, narrowed := true }
def NodeChangesUptoSaid : Prop := nodeChangesUptoRow.holds Try.pinned (OpenSpec.upto nodeChangesSpec)

/-- 'concordancelaw13.NodeBack', WHERE WHAT IT READS IS OF BULK AT MOST 1048576: true; the input reads as it did. -/
def nodeBackUptoRow : OpenClaim := { program := "ytldmhfpgcflplaa", sum := "538578abb3055638ae86f20a4b86fe299a9dd914362f2f7fad46ceee185fc37b", func := "concordance/concordancelaw13.NodeBack", spec := "nodeBack", inPlace := ["internal/bytealg.abigen_runtime_cmpstring"], unfollowed := true, recurses := true, apart := false, narrowed := true }
def NodeBackUptoSaid : Prop := nodeBackUptoRow.holds Try.pinned (OpenSpec.upto nodeBackSpec)

end Rows
end Go.Proofs.Ytldmhfpgcflplaa

/-
  No cell of these rows narrows 'for every input' (looked for: loops, veiled, ifaces, maps, wideKeys, modest, calm, conditions, laid).
  DERIVED. THE GIVEN ROWS OF THIS SEAT. 4 by the template 'for every input the law returns true; each argument reads behind the call as it read before'; 0 by the template 'total and deterministic' (their statements: YteccbihjkolpcaaTotals.lean).
  GIVEN WITH THE SEED: the statements are not yours to turn. If you find one false, say at which input.
  Laid BY PROGRAM, IN A SANDBOX (cutbox-rows.mjs): the forced cells as the released guide's own fill.sh prints them over the translation 9f9e72f7e9a2f65e… (all of the seat's roots in one cut). By AI agents, Wed Nov 11 2026. No macro, syntax, notation, axiom, sorry.
-/
import Derived.Test.YteccbihjkolpcaaChecked
import GoSem.Claim
import GoSem.ClaimJoined
import GoSem.ClaimMapViews
import Derived.JoinedTies
import Derived.KernelRfl
namespace Go.Proofs.Yteccbihjkolpcaa
/- THE CELL 'sum', in the pinned program and in every row, IS THE sha256 OF THE DUMP (.gsa) THAT YteccbihjkolpcaaProg.lean LOADS. Nothing in Lean hashes anything: it is a label: what it is worth is what the hold of that sum in a sandbox is worth. -/
noncomputable def Try.pinned : Pinned := { name := "yteccbihjkolpcaa", sum := "9f9e72f7e9a2f65e96759884d43bed5ccc788aaa198e38ebfa1d3d0d262eec8f", checked := Try.checked }
namespace Rows
def none {H : Type} : Left H := { results := [], args := [] }

/-- 'concordancelaw21.LockShared': WHATEVER THE INPUT: true; the input reads as it did. -/
def lockSharedSpec : ChangeSpec := { name := "lockShared", fn := fun _ => fun
  | [d1, d2] => { results := [.lit (.bool true)], args := [d1, d2] }
  | _ => none }
def lockSharedRow : OpenClaim := { program := "yteccbihjkolpcaa", sum := "9f9e72f7e9a2f65e96759884d43bed5ccc788aaa198e38ebfa1d3d0d262eec8f", func := "concordance/concordancelaw21.LockShared", spec := "lockShared", unfollowed := true, recurses := true, plainKeys := false, apart := false }
def LockSharedSaid : Prop := lockSharedRow.holds Try.pinned (OpenSpec.ofChange lockSharedSpec)

/-- ITS FALSE NEIGHBOUR: 'it returns false'. Refute it at one input. -/
def lockSharedWrong : ChangeSpec := { name := "lockShared", fn := fun _ => fun
  | [d1, d2] => { results := [.lit (.bool false)], args := [d1, d2] }
  | _ => none }
def LockSharedWrongFalsely : Prop := lockSharedRow.holds Try.pinned (OpenSpec.ofChange lockSharedWrong)

/-- 'concordancelaw21.LockPlays': WHATEVER THE INPUT: true; the input reads as it did. -/
def lockPlaysSpec : ChangeSpec := { name := "lockPlays", fn := fun _ => fun
  | [d] => { results := [.lit (.bool true)], args := [d] }
  | _ => none }
def lockPlaysRow : OpenClaim := { program := "yteccbihjkolpcaa", sum := "9f9e72f7e9a2f65e96759884d43bed5ccc788aaa198e38ebfa1d3d0d262eec8f", func := "concordance/concordancelaw21.LockPlays", spec := "lockPlays", unfollowed := true, recurses := true, plainKeys := false, apart := false }
def LockPlaysSaid : Prop := lockPlaysRow.holds Try.pinned (OpenSpec.ofChange lockPlaysSpec)

/-- ITS FALSE NEIGHBOUR: 'it returns false'. Refute it at one input. -/
def lockPlaysWrong : ChangeSpec := { name := "lockPlays", fn := fun _ => fun
  | [d] => { results := [.lit (.bool false)], args := [d] }
  | _ => none }
def LockPlaysWrongFalsely : Prop := lockPlaysRow.holds Try.pinned (OpenSpec.ofChange lockPlaysWrong)

/-- 'concordancelaw21.LockAlone': WHATEVER THE INPUT: true; the input reads as it did. -/
def lockAloneSpec : ChangeSpec := { name := "lockAlone", fn := fun _ => fun
  | [d1, d2, d3] => { results := [.lit (.bool true)], args := [d1, d2, d3] }
  | _ => none }
def lockAloneRow : OpenClaim := { program := "yteccbihjkolpcaa", sum := "9f9e72f7e9a2f65e96759884d43bed5ccc788aaa198e38ebfa1d3d0d262eec8f", func := "concordance/concordancelaw21.LockAlone", spec := "lockAlone", unfollowed := true, recurses := true, plainKeys := false, apart := false }
def LockAloneSaid : Prop := lockAloneRow.holds Try.pinned (OpenSpec.ofChange lockAloneSpec)

/-- ITS FALSE NEIGHBOUR: 'it returns false'. Refute it at one input. -/
def lockAloneWrong : ChangeSpec := { name := "lockAlone", fn := fun _ => fun
  | [d1, d2, d3] => { results := [.lit (.bool false)], args := [d1, d2, d3] }
  | _ => none }
def LockAloneWrongFalsely : Prop := lockAloneRow.holds Try.pinned (OpenSpec.ofChange lockAloneWrong)

/-- 'concordancelaw21.LockFree': WHATEVER THE INPUT: true; the input reads as it did. -/
def lockFreeSpec : ChangeSpec := { name := "lockFree", fn := fun _ => fun
  | [d1, d2] => { results := [.lit (.bool true)], args := [d1, d2] }
  | _ => none }
def lockFreeRow : OpenClaim := { program := "yteccbihjkolpcaa", sum := "9f9e72f7e9a2f65e96759884d43bed5ccc788aaa198e38ebfa1d3d0d262eec8f", func := "concordance/concordancelaw21.LockFree", spec := "lockFree", unfollowed := true, recurses := true, plainKeys := false, apart := false }
def LockFreeSaid : Prop := lockFreeRow.holds Try.pinned (OpenSpec.ofChange lockFreeSpec)

/-- ITS FALSE NEIGHBOUR: 'it returns false'. Refute it at one input. -/
def lockFreeWrong : ChangeSpec := { name := "lockFree", fn := fun _ => fun
  | [d1, d2] => { results := [.lit (.bool false)], args := [d1, d2] }
  | _ => none }
def LockFreeWrongFalsely : Prop := lockFreeRow.holds Try.pinned (OpenSpec.ofChange lockFreeWrong)

/- THE SECOND FORM. 'bulk': how many values and letters a reading holds, each counted each time it is reached (what is shared counts as often as it is met; a slice's spare places count too). A statement '..UptoSaid' is the law's where the arguments, and the package variables that the reading takes, are together of bulk at most 1048576: NARROWER than '..Said'. Prove '..Said' where nothing that the law and all that it calls make is longer than what came in: it says more and counts as full. Else prove '..UptoSaid'. A law counts once. -/
mutual
def uptoBulk {H : Type} : DataW H → Nat
  | .lit (.string bytes) => bytes.length + 1
  | .lit _ => 1
  | .nil => 1
  | .ptr d => uptoBulk d + 1
  | .slice elems spare => uptoBulkAll elems + uptoBulkAll spare + 1
  | .agg parts => uptoBulkAll parts + 1
  | .iface _ d => uptoBulk d + 1
  | .map entries => uptoBulkEntries entries + 1
  | .held _ => 1
def uptoBulkAll {H : Type} : List (DataW H) → Nat
  | [] => 0
  | d :: r => uptoBulk d + uptoBulkAll r
def uptoBulkEntries {H : Type} : List (Lit × DataW H) → Nat
  | [] => 0
  | x :: r => uptoBulkEntry x + uptoBulkEntries r
def uptoBulkEntry {H : Type} : Lit × DataW H → Nat
  | (.string bytes, d) => bytes.length + uptoBulk d + 1
  | (_, d) => uptoBulk d + 1
 end
def uptoSmall : (H : Type) → List (DataW H) → Bool := fun _ ds => decide (uptoBulkAll ds ≤ 1048576)
def OpenSpec.upto (s : _root_.Go.ChangeSpec) : _root_.Go.OpenSpec := { _root_.Go.OpenSpec.ofChange s with cond := some uptoSmall }

/-- 'concordancelaw21.LockShared', WHERE WHAT IT READS IS OF BULK AT MOST 1048576: true; the input reads as it did. -/
def lockSharedUptoRow : OpenClaim := { program := "yteccbihjkolpcaa", sum := "9f9e72f7e9a2f65e96759884d43bed5ccc788aaa198e38ebfa1d3d0d262eec8f", func := "concordance/concordancelaw21.LockShared", spec := "lockShared", unfollowed := true, recurses := true, plainKeys := false, apart := false, narrowed := true }
def LockSharedUptoSaid : Prop := lockSharedUptoRow.holds Try.pinned (OpenSpec.upto lockSharedSpec)

/-- 'concordancelaw21.LockPlays', WHERE WHAT IT READS IS OF BULK AT MOST 1048576: true; the input reads as it did. -/
def lockPlaysUptoRow : OpenClaim := { program := "yteccbihjkolpcaa", sum := "9f9e72f7e9a2f65e96759884d43bed5ccc788aaa198e38ebfa1d3d0d262eec8f", func := "concordance/concordancelaw21.LockPlays", spec := "lockPlays", unfollowed := true, recurses := true, plainKeys := false, apart := false, narrowed := true }
def LockPlaysUptoSaid : Prop := lockPlaysUptoRow.holds Try.pinned (OpenSpec.upto lockPlaysSpec)

/-- 'concordancelaw21.LockAlone', WHERE WHAT IT READS IS OF BULK AT MOST 1048576: true; the input reads as it did. -/
def lockAloneUptoRow : OpenClaim := { program := "yteccbihjkolpcaa", sum := "9f9e72f7e9a2f65e96759884d43bed5ccc788aaa198e38ebfa1d3d0d262eec8f", func := "concordance/concordancelaw21.LockAlone", spec := "lockAlone", unfollowed := true, recurses := true, plainKeys := false, apart := false, narrowed := true }
def LockAloneUptoSaid : Prop := lockAloneUptoRow.holds Try.pinned (OpenSpec.upto lockAloneSpec)

/-- 'concordancelaw21.LockFree', WHERE WHAT IT READS IS OF BULK AT MOST 1048576: true; the input reads as it did. -/
def lockFreeUptoRow : OpenClaim := { program := "yteccbihjkolpcaa", sum := "9f9e72f7e9a2f65e96759884d43bed5ccc788aaa198e38ebfa1d3d0d262eec8f", func := "concordance/concordancelaw21.LockFree", spec := "lockFree", unfollowed := true, recurses := true, plainKeys := false, apart := false, narrowed := true }
def LockFreeUptoSaid : Prop := lockFreeUptoRow.holds Try.pinned (OpenSpec.upto lockFreeSpec)

end Rows
end Go.Proofs.Yteccbihjkolpcaa

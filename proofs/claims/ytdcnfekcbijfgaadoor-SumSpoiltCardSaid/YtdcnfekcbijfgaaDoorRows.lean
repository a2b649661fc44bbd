/-
  NARROWER THAN 'FOR EVERY INPUT', by the rows' own cells (each row's printed sentence says how): SumSums: laid · SumNumbers: laid · SumSpoilt: laid · SumApart: laid · SumOrder: laid.
  DERIVED. THE GIVEN ROWS OF THIS SEAT. 5 by the template 'for every input the law returns true; each argument reads behind the call as it read before'; 0 by the template 'total and deterministic' (their statements: YtdcnfekcbijfgaaDoorTotals.lean).
  GIVEN WITH THE SEED: the statements are not yours to turn. If you find one false, say at which input.
  Laid BY PROGRAM, IN A SANDBOX (cutbox-rows.mjs): the forced cells as the released guide's own fill.sh prints them over the translation 90a08fa9f692e6c7… (all of the seat's roots in one cut). By AI agents, Wed Nov 11 2026. No macro, syntax, notation, axiom, sorry.
-/
import Derived.Test.YtdcnfekcbijfgaaDoorChecked
import GoSem.Claim
import GoSem.ClaimJoined
import GoSem.ClaimMapViews
import Derived.JoinedTies
import Derived.KernelRfl
namespace Go.Proofs.YtdcnfekcbijfgaaDoor
/- THE CELL 'sum', in the pinned program and in every row, IS THE sha256 OF THE DUMP (.gsa) THAT YtdcnfekcbijfgaaDoorProg.lean LOADS. Nothing in Lean hashes anything: it is a label: what it is worth is what the hold of that sum in a sandbox is worth. -/
noncomputable def Tryd.pinned : Pinned := { name := "ytdcnfekcbijfgaadoor", sum := "90a08fa9f692e6c7f6380ce39b6d18addeea4c8c1822f03bc75922c966db7dc1", checked := Tryd.checked }
namespace Rows
def none {H : Type} : Left H := { results := [], args := [] }

/- WHAT THE LISTED PACKAGE-LEVEL VARIABLES READ AS WHEN THE CALL BEGINS. Each datum BY PROGRAM (the guide's laid-datum.mjs) off the statement by which the dump's own 'gosem.cut.vars' lays the variable. In a bare row this is a premise. The card (YtdcnfekcbijfgaaDoorCards.lean) ties it to the program's text. -/
def laid_concordance_sum_turns {H : Type} : DataW H := .agg [.lit (.int .u32 0), .lit (.int .u32 498536548), .lit (.int .u32 997073096), .lit (.int .u32 651767980), .lit (.int .u32 1994146192), .lit (.int .u32 1802195444), .lit (.int .u32 1303535960), .lit (.int .u32 1342533948), .lit (.int .u32 3988292384), .lit (.int .u32 4027552580), .lit (.int .u32 3604390888), .lit (.int .u32 3412177804), .lit (.int .u32 2607071920), .lit (.int .u32 2262029012), .lit (.int .u32 2685067896), .lit (.int .u32 3183342108)]

/-- 'concordancelaw02.SumSums': WHATEVER THE INPUT: true; the input reads as it did. -/
def sumSumsSpec : ChangeSpec := { name := "sumSums", fn := fun _ => fun
  | [d] => { results := [.lit (.bool true)], args := [d] }
  | _ => none }
def sumSumsRow : OpenClaim := { program := "ytdcnfekcbijfgaadoor", sum := "90a08fa9f692e6c7f6380ce39b6d18addeea4c8c1822f03bc75922c966db7dc1", func := "concordance/concordancelaw02.SumSums", spec := "sumSums", named := ["concordance/sum.turns"], apart := false, laid := [("concordance/sum.turns", laid_concordance_sum_turns)] }
def SumSumsSaid : Prop := sumSumsRow.holds Tryd.pinned (OpenSpec.ofChange sumSumsSpec)

/-- ITS FALSE NEIGHBOUR: 'it returns false'. Refute it at one input. -/
def sumSumsWrong : ChangeSpec := { name := "sumSums", fn := fun _ => fun
  | [d] => { results := [.lit (.bool false)], args := [d] }
  | _ => none }
def SumSumsWrongFalsely : Prop := sumSumsRow.holds Tryd.pinned (OpenSpec.ofChange sumSumsWrong)

/-- 'concordancelaw02.SumNumbers': WHATEVER THE INPUT: true; the input reads as it did. -/
def sumNumbersSpec : ChangeSpec := { name := "sumNumbers", fn := fun _ => fun
  | [d1, d2, d3] => { results := [.lit (.bool true)], args := [d1, d2, d3] }
  | _ => none }
def sumNumbersRow : OpenClaim := { program := "ytdcnfekcbijfgaadoor", sum := "90a08fa9f692e6c7f6380ce39b6d18addeea4c8c1822f03bc75922c966db7dc1", func := "concordance/concordancelaw02.SumNumbers", spec := "sumNumbers", named := ["concordance/sum.turns"], apart := false, laid := [("concordance/sum.turns", laid_concordance_sum_turns)] }
def SumNumbersSaid : Prop := sumNumbersRow.holds Tryd.pinned (OpenSpec.ofChange sumNumbersSpec)

/-- ITS FALSE NEIGHBOUR: 'it returns false'. Refute it at one input. -/
def sumNumbersWrong : ChangeSpec := { name := "sumNumbers", fn := fun _ => fun
  | [d1, d2, d3] => { results := [.lit (.bool false)], args := [d1, d2, d3] }
  | _ => none }
def SumNumbersWrongFalsely : Prop := sumNumbersRow.holds Tryd.pinned (OpenSpec.ofChange sumNumbersWrong)

/-- 'concordancelaw02.SumSpoilt': WHATEVER THE INPUT: true; the input reads as it did. -/
def sumSpoiltSpec : ChangeSpec := { name := "sumSpoilt", fn := fun _ => fun
  | [d1, d2, d3] => { results := [.lit (.bool true)], args := [d1, d2, d3] }
  | _ => none }
def sumSpoiltRow : OpenClaim := { program := "ytdcnfekcbijfgaadoor", sum := "90a08fa9f692e6c7f6380ce39b6d18addeea4c8c1822f03bc75922c966db7dc1", func := "concordance/concordancelaw02.SumSpoilt", spec := "sumSpoilt", named := ["concordance/sum.turns"], apart := false, laid := [("concordance/sum.turns", laid_concordance_sum_turns)] }
def SumSpoiltSaid : Prop := sumSpoiltRow.holds Tryd.pinned (OpenSpec.ofChange sumSpoiltSpec)

/-- ITS FALSE NEIGHBOUR: 'it returns false'. Refute it at one input. -/
def sumSpoiltWrong : ChangeSpec := { name := "sumSpoilt", fn := fun _ => fun
  | [d1, d2, d3] => { results := [.lit (.bool false)], args := [d1, d2, d3] }
  | _ => none }
def SumSpoiltWrongFalsely : Prop := sumSpoiltRow.holds Tryd.pinned (OpenSpec.ofChange sumSpoiltWrong)

/-- 'concordancelaw02.SumApart': WHATEVER THE INPUT: true; the input reads as it did. -/
def sumApartSpec : ChangeSpec := { name := "sumApart", fn := fun _ => fun
  | [d1, d2] => { results := [.lit (.bool true)], args := [d1, d2] }
  | _ => none }
def sumApartRow : OpenClaim := { program := "ytdcnfekcbijfgaadoor", sum := "90a08fa9f692e6c7f6380ce39b6d18addeea4c8c1822f03bc75922c966db7dc1", func := "concordance/concordancelaw02.SumApart", spec := "sumApart", named := ["concordance/sum.turns"], apart := false, laid := [("concordance/sum.turns", laid_concordance_sum_turns)] }
def SumApartSaid : Prop := sumApartRow.holds Tryd.pinned (OpenSpec.ofChange sumApartSpec)

/-- ITS FALSE NEIGHBOUR: 'it returns false'. Refute it at one input. -/
def sumApartWrong : ChangeSpec := { name := "sumApart", fn := fun _ => fun
  | [d1, d2] => { results := [.lit (.bool false)], args := [d1, d2] }
  | _ => none }
def SumApartWrongFalsely : Prop := sumApartRow.holds Tryd.pinned (OpenSpec.ofChange sumApartWrong)

/-- 'concordancelaw02.SumOrder': WHATEVER THE INPUT: true; the input reads as it did. -/
def sumOrderSpec : ChangeSpec := { name := "sumOrder", fn := fun _ => fun
  | [d1, d2, d3] => { results := [.lit (.bool true)], args := [d1, d2, d3] }
  | _ => none }
def sumOrderRow : OpenClaim := { program := "ytdcnfekcbijfgaadoor", sum := "90a08fa9f692e6c7f6380ce39b6d18addeea4c8c1822f03bc75922c966db7dc1", func := "concordance/concordancelaw02.SumOrder", spec := "sumOrder", named := ["concordance/sum.turns"], apart := false, laid := [("concordance/sum.turns", laid_concordance_sum_turns)] }
def SumOrderSaid : Prop := sumOrderRow.holds Tryd.pinned (OpenSpec.ofChange sumOrderSpec)

/-- ITS FALSE NEIGHBOUR: 'it returns false'. Refute it at one input. -/
def sumOrderWrong : ChangeSpec := { name := "sumOrder", fn := fun _ => fun
  | [d1, d2, d3] => { results := [.lit (.bool false)], args := [d1, d2, d3] }
  | _ => none }
def SumOrderWrongFalsely : Prop := sumOrderRow.holds Tryd.pinned (OpenSpec.ofChange sumOrderWrong)

/- THE SECOND FORM. 'bulk': how many values and letters a reading holds, each counted each time it is reached (what is shared counts as often as it is met; a slice's spare places count too). A statement '..UptoSaid' is the law's where the arguments, and the package variables that the reading takes, are together of bulk at most 1048576: NARROWER than '..Said'. Prove '..Said' where nothing that the law and all that it calls make is longer than what came in: it says more and counts as full. Else prove '..UptoSaid'. A law counts once. -/
mutual
def uptoBulk {H : Type} : DataW H → Nat
  | .lit (.string bytes) => bytes.length + 1
  | .lit _ => 1
  | .nil => 1
  | .ptr d => uptoBulk d + 1
  | .slice elems spare => uptoBulkAll elems + uptoBulkAll spare + 1
  | .agg parts => uptoBulkAll parts + 1
  | .iface _ d => uptoBulk d + 1
  | .map entries => uptoBulkEntries entries + 1
  | .held _ => 1
def uptoBulkAll {H : Type} : List (DataW H) → Nat
  | [] => 0
  | d :: r => uptoBulk d + uptoBulkAll r
def uptoBulkEntries {H : Type} : List (Lit × DataW H) → Nat
  | [] => 0
  | x :: r => uptoBulkEntry x + uptoBulkEntries r
def uptoBulkEntry {H : Type} : Lit × DataW H → Nat
  | (.string bytes, d) => bytes.length + uptoBulk d + 1
  | (_, d) => uptoBulk d + 1
 end
def uptoSmall : (H : Type) → List (DataW H) → Bool := fun _ ds => decide (uptoBulkAll ds ≤ 1048576)
def OpenSpec.upto (s : _root_.Go.ChangeSpec) : _root_.Go.OpenSpec := { _root_.Go.OpenSpec.ofChange s with cond := some uptoSmall }

/-- 'concordancelaw02.SumSums', WHERE WHAT IT READS IS OF BULK AT MOST 1048576: true; the input reads as it did. -/
def sumSumsUptoRow : OpenClaim := { program := "ytdcnfekcbijfgaadoor", sum := "90a08fa9f692e6c7f6380ce39b6d18addeea4c8c1822f03bc75922c966db7dc1", func := "concordance/concordancelaw02.SumSums", spec := "sumSums", named := ["concordance/sum.turns"], apart := false, laid := [("concordance/sum.turns", laid_concordance_sum_turns)], narrowed := true }
def SumSumsUptoSaid : Prop := sumSumsUptoRow.holds Tryd.pinned (OpenSpec.upto sumSumsSpec)

/-- 'concordancelaw02.SumNumbers', WHERE WHAT IT READS IS OF BULK AT MOST 1048576: true; the input reads as it did. -/
def sumNumbersUptoRow : OpenClaim := { program := "ytdcnfekcbijfgaadoor", sum := "90a08fa9f692e6c7f6380ce39b6d18addeea4c8c1822f03bc75922c966db7dc1", func := "concordance/concordancelaw02.SumNumbers", spec := "sumNumbers", named := ["concordance/sum.turns"], apart := false, laid := [("concordance/sum.turns", laid_concordance_sum_turns)], narrowed := true }
def SumNumbersUptoSaid : Prop := sumNumbersUptoRow.holds Tryd.pinned (OpenSpec.upto sumNumbersSpec)

/-- 'concordancelaw02.SumSpoilt', WHERE WHAT IT READS IS OF BULK AT MOST 1048576: true; the input reads as it did. -/
def sumSpoiltUptoRow : OpenClaim := { program := "ytdcnfekcbijfgaadoor", sum := "90a08fa9f692e6c7f6380ce39b6d18addeea4c8c1822f03bc75922c966db7dc1", func := "concordance/concordancelaw02.SumSpoilt", spec := "sumSpoilt", named := ["concordance/sum.turns"], apart := false, laid := [("concordance/sum.turns", laid_concordance_sum_turns)], narrowed := true }
def SumSpoiltUptoSaid : Prop := sumSpoiltUptoRow.holds Tryd.pinned (OpenSpec.upto sumSpoiltSpec)

/-- 'concordancelaw02.SumApart', WHERE WHAT IT READS IS OF BULK AT MOST 1048576: true; the input reads as it did. -/
def sumApartUptoRow : OpenClaim := { program := "ytdcnfekcbijfgaadoor", sum := "90a08fa9f692e6c7f6380ce39b6d18addeea4c8c1822f03bc75922c966db7dc1", func := "concordance/concordancelaw02.SumApart", spec := "sumApart", named := ["concordance/sum.turns"], apart := false, laid := [("concordance/sum.turns", laid_concordance_sum_turns)], narrowed := true }
def SumApartUptoSaid : Prop := sumApartUptoRow.holds Tryd.pinned (OpenSpec.upto sumApartSpec)

/-- 'concordancelaw02.SumOrder', WHERE WHAT IT READS IS OF BULK AT MOST 1048576: true; the input reads as it did. -/
def sumOrderUptoRow : OpenClaim := { program := "ytdcnfekcbijfgaadoor", sum := "90a08fa9f692e6c7f6380ce39b6d18addeea4c8c1822f03bc75922c966db7dc1", func := "concordance/concordancelaw02.SumOrder", spec := "sumOrder", named := ["concordance/sum.turns"], apart := false, laid := [("concordance/sum.turns", laid_concordance_sum_turns)], narrowed := true }
def SumOrderUptoSaid : Prop := sumOrderUptoRow.holds Tryd.pinned (OpenSpec.upto sumOrderSpec)

end Rows
end Go.Proofs.YtdcnfekcbijfgaaDoor

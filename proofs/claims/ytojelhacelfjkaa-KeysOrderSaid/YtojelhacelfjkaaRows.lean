/-
  No cell of these rows narrows 'for every input' (looked for: loops, veiled, ifaces, maps, wideKeys, modest, calm, conditions, laid).
  DERIVED. THE GIVEN ROWS OF THIS SEAT. 7 by the template 'for every input the law returns true; each argument reads behind the call as it read before'; 0 by the template 'total and deterministic' (their statements: YtojelhacelfjkaaTotals.lean).
  GIVEN WITH THE SEED: the statements are not yours to turn. If you find one false, say at which input.
  Laid BY PROGRAM, IN A SANDBOX (cutbox-rows.mjs): the forced cells as the released guide's own fill.sh prints them over the translation 6c53f3f83b800a4f… (all of the seat's roots in one cut). By AI agents, Wed Nov 11 2026. No macro, syntax, notation, axiom, sorry.
-/
import Derived.Test.YtojelhacelfjkaaChecked
import GoSem.Claim
import GoSem.ClaimJoined
import GoSem.ClaimMapViews
import Derived.JoinedTies
import Derived.KernelRfl
namespace Go.Proofs.Ytojelhacelfjkaa
/- THE CELL 'sum', in the pinned program and in every row, IS THE sha256 OF THE DUMP (.gsa) THAT YtojelhacelfjkaaProg.lean LOADS. Nothing in Lean hashes anything: it is a label: what it is worth is what the hold of that sum in a sandbox is worth. -/
noncomputable def Try.pinned : Pinned := { name := "ytojelhacelfjkaa", sum := "6c53f3f83b800a4fd1e416223f1fbf50a5732fb009ccc72ad609f4f37bf7a1f2", checked := Try.checked }
namespace Rows
def none {H : Type} : Left H := { results := [], args := [] }

/-- 'concordancelaw01.KeysPuts': WHATEVER THE INPUT: true; the input reads as it did. -/
def keysPutsSpec : ChangeSpec := { name := "keysPuts", fn := fun _ => fun
  | [d] => { results := [.lit (.bool true)], args := [d] }
  | _ => none }
def keysPutsRow : OpenClaim := { program := "ytojelhacelfjkaa", sum := "6c53f3f83b800a4fd1e416223f1fbf50a5732fb009ccc72ad609f4f37bf7a1f2", func := "concordance/concordancelaw01.KeysPuts", spec := "keysPuts", inPlace := ["internal/bytealg.abigen_runtime_cmpstring"], apart := false }
def KeysPutsSaid : Prop := keysPutsRow.holds Try.pinned (OpenSpec.ofChange keysPutsSpec)

/-- ITS FALSE NEIGHBOUR: 'it returns false'. Refute it at one input. -/
def keysPutsWrong : ChangeSpec := { name := "keysPuts", fn := fun _ => fun
  | [d] => { results := [.lit (.bool false)], args := [d] }
  | _ => none }
def KeysPutsWrongFalsely : Prop := keysPutsRow.holds Try.pinned (OpenSpec.ofChange keysPutsWrong)

/-- 'concordancelaw01.KeysGets': WHATEVER THE INPUT: true; the input reads as it did. -/
def keysGetsSpec : ChangeSpec := { name := "keysGets", fn := fun _ => fun
  | [d] => { results := [.lit (.bool true)], args := [d] }
  | _ => none }
def keysGetsRow : OpenClaim := { program := "ytojelhacelfjkaa", sum := "6c53f3f83b800a4fd1e416223f1fbf50a5732fb009ccc72ad609f4f37bf7a1f2", func := "concordance/concordancelaw01.KeysGets", spec := "keysGets", inPlace := ["internal/bytealg.abigen_runtime_cmpstring"], apart := false }
def KeysGetsSaid : Prop := keysGetsRow.holds Try.pinned (OpenSpec.ofChange keysGetsSpec)

/-- ITS FALSE NEIGHBOUR: 'it returns false'. Refute it at one input. -/
def keysGetsWrong : ChangeSpec := { name := "keysGets", fn := fun _ => fun
  | [d] => { results := [.lit (.bool false)], args := [d] }
  | _ => none }
def KeysGetsWrongFalsely : Prop := keysGetsRow.holds Try.pinned (OpenSpec.ofChange keysGetsWrong)

/-- 'concordancelaw01.KeysOrder': WHATEVER THE INPUT: true; the input reads as it did. -/
def keysOrderSpec : ChangeSpec := { name := "keysOrder", fn := fun _ => fun
  | [d1, d2] => { results := [.lit (.bool true)], args := [d1, d2] }
  | _ => none }
def keysOrderRow : OpenClaim := { program := "ytojelhacelfjkaa", sum := "6c53f3f83b800a4fd1e416223f1fbf50a5732fb009ccc72ad609f4f37bf7a1f2", func := "concordance/concordancelaw01.KeysOrder", spec := "keysOrder", inPlace := ["internal/bytealg.abigen_runtime_cmpstring"], apart := false }
def KeysOrderSaid : Prop := keysOrderRow.holds Try.pinned (OpenSpec.ofChange keysOrderSpec)

/-- ITS FALSE NEIGHBOUR: 'it returns false'. Refute it at one input. -/
def keysOrderWrong : ChangeSpec := { name := "keysOrder", fn := fun _ => fun
  | [d1, d2] => { results := [.lit (.bool false)], args := [d1, d2] }
  | _ => none }
def KeysOrderWrongFalsely : Prop := keysOrderRow.holds Try.pinned (OpenSpec.ofChange keysOrderWrong)

/-- 'concordancelaw01.KeysValues': WHATEVER THE INPUT: true; the input reads as it did. -/
def keysValuesSpec : ChangeSpec := { name := "keysValues", fn := fun _ => fun
  | [d1, d2] => { results := [.lit (.bool true)], args := [d1, d2] }
  | _ => none }
def keysValuesRow : OpenClaim := { program := "ytojelhacelfjkaa", sum := "6c53f3f83b800a4fd1e416223f1fbf50a5732fb009ccc72ad609f4f37bf7a1f2", func := "concordance/concordancelaw01.KeysValues", spec := "keysValues", inPlace := ["internal/bytealg.abigen_runtime_cmpstring"], apart := false }
def KeysValuesSaid : Prop := keysValuesRow.holds Try.pinned (OpenSpec.ofChange keysValuesSpec)

/-- ITS FALSE NEIGHBOUR: 'it returns false'. Refute it at one input. -/
def keysValuesWrong : ChangeSpec := { name := "keysValues", fn := fun _ => fun
  | [d1, d2] => { results := [.lit (.bool false)], args := [d1, d2] }
  | _ => none }
def KeysValuesWrongFalsely : Prop := keysValuesRow.holds Try.pinned (OpenSpec.ofChange keysValuesWrong)

/-- 'concordancelaw01.KeysApart': WHATEVER THE INPUT: true; the input reads as it did. -/
def keysApartSpec : ChangeSpec := { name := "keysApart", fn := fun _ => fun
  | [d1, d2] => { results := [.lit (.bool true)], args := [d1, d2] }
  | _ => none }
def keysApartRow : OpenClaim := { program := "ytojelhacelfjkaa", sum := "6c53f3f83b800a4fd1e416223f1fbf50a5732fb009ccc72ad609f4f37bf7a1f2", func := "concordance/concordancelaw01.KeysApart", spec := "keysApart", inPlace := ["internal/bytealg.abigen_runtime_cmpstring"], apart := false }
def KeysApartSaid : Prop := keysApartRow.holds Try.pinned (OpenSpec.ofChange keysApartSpec)

/-- ITS FALSE NEIGHBOUR: 'it returns false'. Refute it at one input. -/
def keysApartWrong : ChangeSpec := { name := "keysApart", fn := fun _ => fun
  | [d1, d2] => { results := [.lit (.bool false)], args := [d1, d2] }
  | _ => none }
def KeysApartWrongFalsely : Prop := keysApartRow.holds Try.pinned (OpenSpec.ofChange keysApartWrong)

/-- 'concordancelaw01.KeysJoins': WHATEVER THE INPUT: true; the input reads as it did. -/
def keysJoinsSpec : ChangeSpec := { name := "keysJoins", fn := fun _ => fun
  | [d1, d2] => { results := [.lit (.bool true)], args := [d1, d2] }
  | _ => none }
def keysJoinsRow : OpenClaim := { program := "ytojelhacelfjkaa", sum := "6c53f3f83b800a4fd1e416223f1fbf50a5732fb009ccc72ad609f4f37bf7a1f2", func := "concordance/concordancelaw01.KeysJoins", spec := "keysJoins", inPlace := ["internal/bytealg.abigen_runtime_cmpstring"], apart := false }
def KeysJoinsSaid : Prop := keysJoinsRow.holds Try.pinned (OpenSpec.ofChange keysJoinsSpec)

/-- ITS FALSE NEIGHBOUR: 'it returns false'. Refute it at one input. -/
def keysJoinsWrong : ChangeSpec := { name := "keysJoins", fn := fun _ => fun
  | [d1, d2] => { results := [.lit (.bool false)], args := [d1, d2] }
  | _ => none }
def KeysJoinsWrongFalsely : Prop := keysJoinsRow.holds Try.pinned (OpenSpec.ofChange keysJoinsWrong)

/-- 'concordancelaw01.KeysAfter': WHATEVER THE INPUT: true; the input reads as it did. -/
def keysAfterSpec : ChangeSpec := { name := "keysAfter", fn := fun _ => fun
  | [d1, d2] => { results := [.lit (.bool true)], args := [d1, d2] }
  | _ => none }
def keysAfterRow : OpenClaim := { program := "ytojelhacelfjkaa", sum := "6c53f3f83b800a4fd1e416223f1fbf50a5732fb009ccc72ad609f4f37bf7a1f2", func := "concordance/concordancelaw01.KeysAfter", spec := "keysAfter", inPlace := ["internal/bytealg.abigen_runtime_cmpstring"], apart := false }
def KeysAfterSaid : Prop := keysAfterRow.holds Try.pinned (OpenSpec.ofChange keysAfterSpec)

/-- ITS FALSE NEIGHBOUR: 'it returns false'. Refute it at one input. -/
def keysAfterWrong : ChangeSpec := { name := "keysAfter", fn := fun _ => fun
  | [d1, d2] => { results := [.lit (.bool false)], args := [d1, d2] }
  | _ => none }
def KeysAfterWrongFalsely : Prop := keysAfterRow.holds Try.pinned (OpenSpec.ofChange keysAfterWrong)

/- THE SECOND FORM. 'bulk': how many values and letters a reading holds, each counted each time it is reached (what is shared counts as often as it is met; a slice's spare places count too). A statement '..UptoSaid' is the law's where the arguments, and the package variables that the reading takes, are together of bulk at most 1048576: NARROWER than '..Said'. Prove '..Said' where nothing that the law and all that it calls make is longer than what came in: it says more and counts as full. Else prove '..UptoSaid'. A law counts once. -/
mutual
def uptoBulk {H : Type} : DataW H → Nat
  | .lit (.string bytes) => bytes.length + 1
  | .lit _ => 1
  | .nil => 1
  | .ptr d => uptoBulk d + 1
  | .slice elems spare => uptoBulkAll elems + uptoBulkAll spare + 1
  | .agg parts => uptoBulkAll parts + 1
  | .iface _ d => uptoBulk d + 1
  | .map entries => uptoBulkEntries entries + 1
  | .held _ => 1
def uptoBulkAll {H : Type} : List (DataW H) → Nat
  | [] => 0
  | d :: r => uptoBulk d + uptoBulkAll r
def uptoBulkEntries {H : Type} : List (Lit × DataW H) → Nat
  | [] => 0
  | x :: r => uptoBulkEntry x + uptoBulkEntries r
def uptoBulkEntry {H : Type} : Lit × DataW H → Nat
  | (.string bytes, d) => bytes.length + uptoBulk d + 1
  | (_, d) => uptoBulk d + 1
 end
def uptoSmall : (H : Type) → List (DataW H) → Bool := fun _ ds => decide (uptoBulkAll ds ≤ 1048576)
def OpenSpec.upto (s : _root_.Go.ChangeSpec) : _root_.Go.OpenSpec := { _root_.Go.OpenSpec.ofChange s with cond := some uptoSmall }

/-- 'concordancelaw01.KeysPuts', WHERE WHAT IT READS IS OF BULK AT MOST 1048576: true; the input reads as it did. -/
def keysPutsUptoRow : OpenClaim := { program := "ytojelhacelfjkaa", sum := "6c53f3f83b800a4fd1e416223f1fbf50a5732fb009ccc72ad609f4f37bf7a1f2", func := "concordance/concordancelaw01.KeysPuts", spec := "keysPuts", inPlace := ["internal/bytealg.abigen_runtime_cmpstring"], apart := false, narrowed := true }
def KeysPutsUptoSaid : Prop := keysPutsUptoRow.holds Try.pinned (OpenSpec.upto keysPutsSpec)

/-- 'concordancelaw01.KeysGets', WHERE WHAT IT READS IS OF BULK AT MOST 1048576: true; the input reads as it did. -/
def keysGetsUptoRow : OpenClaim := { program := "ytojelhacelfjkaa", sum := "6c53f3f83b800a4fd1e416223f1fbf50a5732fb009ccc72ad609f4f37bf7a1f2", func := "concordance/concordancelaw01.KeysGets", spec := "keysGets", inPlace := ["internal/bytealg.abigen_runtime_cmpstring"], apart := false, narrowed := true }
def KeysGetsUptoSaid : Prop := keysGetsUptoRow.holds Try.pinned (OpenSpec.upto keysGetsSpec)

/-- 'concordancelaw01.KeysOrder', WHERE WHAT IT READS IS OF BULK AT MOST 1048576: true; the input reads as it did. -/
def keysOrderUptoRow : OpenClaim := { program := "ytojelhacelfjkaa", sum := "6c53f3f83b800a4fd1e416223f1fbf50a5732fb009ccc72ad609f4f37bf7a1f2", func := "concordance/concordancelaw01.KeysOrder", spec := "keysOrder", inPlace := ["internal/bytealg.abigen_runtime_cmpstring"], apart := false, narrowed := true }
def KeysOrderUptoSaid : Prop := keysOrderUptoRow.holds Try.pinned (OpenSpec.upto keysOrderSpec)

/-- 'concordancelaw01.KeysValues', WHERE WHAT IT READS IS OF BULK AT MOST 1048576: true; the input reads as it did. -/
def keysValuesUptoRow : OpenClaim := { program := "ytojelhacelfjkaa", sum := "6c53f3f83b800a4fd1e416223f1fbf50a5732fb009ccc72ad609f4f37bf7a1f2", func := "concordance/concordancelaw01.KeysValues", spec := "keysValues", inPlace := ["internal/bytealg.abigen_runtime_cmpstring"], apart := false, narrowed := true }
def KeysValuesUptoSaid : Prop := keysValuesUptoRow.holds Try.pinned (OpenSpec.upto keysValuesSpec)

/-- 'concordancelaw01.KeysApart', WHERE WHAT IT READS IS OF BULK AT MOST 1048576: true; the input reads as it did. -/
def keysApartUptoRow : OpenClaim := { program := "ytojelhacelfjkaa", sum := "6c53f3f83b800a4fd1e416223f1fbf50a5732fb009ccc72ad609f4f37bf7a1f2", func := "concordance/concordancelaw01.KeysApart", spec := "keysApart", inPlace := ["internal/bytealg.abigen_runtime_cmpstring"], apart := false, narrowed := true }
def KeysApartUptoSaid : Prop := keysApartUptoRow.holds Try.pinned (OpenSpec.upto keysApartSpec)

/-- 'concordancelaw01.KeysJoins', WHERE WHAT IT READS IS OF BULK AT MOST 1048576: true; the input reads as it did. -/
def keysJoinsUptoRow : OpenClaim := { program := "ytojelhacelfjkaa", sum := "6c53f3f83b800a4fd1e416223f1fbf50a5732fb009ccc72ad609f4f37bf7a1f2", func := "concordance/concordancelaw01.KeysJoins", spec := "keysJoins", inPlace := ["internal/bytealg.abigen_runtime_cmpstring"], apart := false, narrowed := true }
def KeysJoinsUptoSaid : Prop := keysJoinsUptoRow.holds Try.pinned (OpenSpec.upto keysJoinsSpec)

/-- 'concordancelaw01.KeysAfter', WHERE WHAT IT READS IS OF BULK AT MOST 1048576: true; the input reads as it did. -/
def keysAfterUptoRow : OpenClaim := { program := "ytojelhacelfjkaa", sum := "6c53f3f83b800a4fd1e416223f1fbf50a5732fb009ccc72ad609f4f37bf7a1f2", func := "concordance/concordancelaw01.KeysAfter", spec := "keysAfter", inPlace := ["internal/bytealg.abigen_runtime_cmpstring"], apart := false, narrowed := true }
def KeysAfterUptoSaid : Prop := keysAfterUptoRow.holds Try.pinned (OpenSpec.upto keysAfterSpec)

end Rows
end Go.Proofs.Ytojelhacelfjkaa

/-
  DERIVED. GIVEN WITH THE SEED: THE CARDS: each row of YtboonnejlfmicaaDoorRows.lean that lists a variable, with what it lists TIED to the program's text (the seventh form; the later family's looks); each row that meets fmt, with fmt's text TOLD by the authors' own Lean function (tested against real Go, not proved from fmt's source: count such statements apart). THE CARD IS WHAT COUNTS. Prove the row's statement (the work); the ties are given (YtboonnejlfmicaaDoorTie.lean); close each card by the builder's one call (the guide's Derived/Test/ToyasCard.lean, 'card_holds'). Laid BY PROGRAM, IN A SANDBOX (cutbox-door.mjs). By AI agents, Wed Nov 11 2026. No macro, syntax, notation, axiom, sorry.
-/
import Derived.Test.YtboonnejlfmicaaDoorRows
import GoSem.ClaimSeven
namespace Go.Proofs.YtboonnejlfmicaaDoor
namespace Rows

/-- THE TIED CARD OF 'concordancetop.TopPatched'. -/
def topPatchedCard : Claim7 := { stood := { row := topPatchedRow, standIns := [], harness := (true, "2c04cee52c89537adca31220a5ee6a3620000811a004d3b09d980ea333899092"), looks := false }, kinds := [], alts := [], laidByText := true, laidKinds := [.data, .data, .pinned], laidTests := true, laidLooks := .later }
def TopPatchedCardSaid : Prop := Claim7.holds Tryd.pinned (.plain (OpenSpec.ofChange topPatchedSpec)) topPatchedCard

/-- THE SECOND FORM's CARD OF 'concordancetop.TopPatched'. -/
def topPatchedUptoCard : Claim7 := { stood := { row := topPatchedUptoRow, standIns := [], harness := (true, "2c04cee52c89537adca31220a5ee6a3620000811a004d3b09d980ea333899092"), looks := false }, kinds := [], alts := [], laidByText := true, laidKinds := [.data, .data, .pinned], laidTests := true, laidLooks := .later }
def TopPatchedUptoCardSaid : Prop := Claim7.holds Tryd.pinned (.plain (OpenSpec.upto topPatchedSpec)) topPatchedUptoCard
end Rows
end Go.Proofs.YtboonnejlfmicaaDoor

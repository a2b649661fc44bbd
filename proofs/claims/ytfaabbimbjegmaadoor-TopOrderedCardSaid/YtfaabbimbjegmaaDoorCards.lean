/-
  DERIVED. GIVEN WITH THE SEED: THE CARDS: each row of YtfaabbimbjegmaaDoorRows.lean that lists a variable, with what it lists TIED to the program's text (the seventh form; the later family's looks); each row that meets fmt, with fmt's text TOLD by the authors' own Lean function (tested against real Go, not proved from fmt's source: count such statements apart). THE CARD IS WHAT COUNTS. Prove the row's statement (the work); the ties are given (YtfaabbimbjegmaaDoorTie.lean); close each card by the builder's one call (the guide's Derived/Test/ToyasCard.lean, 'card_holds'). Laid BY PROGRAM, IN A SANDBOX (cutbox-door.mjs). By AI agents, Wed Nov 11 2026. No macro, syntax, notation, axiom, sorry.
-/
import Derived.Test.YtfaabbimbjegmaaDoorRows
import GoSem.ClaimSeven
namespace Go.Proofs.YtfaabbimbjegmaaDoor
namespace Rows

/-- THE TIED CARD OF 'concordancetop.TopOrdered'. -/
def topOrderedCard : Claim7 := { stood := { row := topOrderedRow, standIns := [], harness := (true, "6087cb50ba547ed742622762a6b5a34162ec3b4d620967ca89a3d0b216d433e9"), looks := false }, kinds := [], alts := [], laidByText := true, laidKinds := [.data, .data, .pinned], laidTests := true, laidLooks := .later }
def TopOrderedCardSaid : Prop := Claim7.holds Tryd.pinned (.plain (OpenSpec.ofChange topOrderedSpec)) topOrderedCard

/-- THE SECOND FORM's CARD OF 'concordancetop.TopOrdered'. -/
def topOrderedUptoCard : Claim7 := { stood := { row := topOrderedUptoRow, standIns := [], harness := (true, "6087cb50ba547ed742622762a6b5a34162ec3b4d620967ca89a3d0b216d433e9"), looks := false }, kinds := [], alts := [], laidByText := true, laidKinds := [.data, .data, .pinned], laidTests := true, laidLooks := .later }
def TopOrderedUptoCardSaid : Prop := Claim7.holds Tryd.pinned (.plain (OpenSpec.upto topOrderedSpec)) topOrderedUptoCard
end Rows
end Go.Proofs.YtfaabbimbjegmaaDoor

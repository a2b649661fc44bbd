/-
  DERIVED. GIVEN WITH THE SEED: THE CARDS: each row of YtdcnfekcbijfgaaDoorRows.lean that lists a variable, with what it lists TIED to the program's text (the seventh form; the later family's looks); each row that meets fmt, with fmt's text TOLD by the authors' own Lean function (tested against real Go, not proved from fmt's source: count such statements apart). THE CARD IS WHAT COUNTS. Prove the row's statement (the work); the ties are given (YtdcnfekcbijfgaaDoorTie.lean); close each card by the builder's one call (the guide's Derived/Test/ToyasCard.lean, 'card_holds'). Laid BY PROGRAM, IN A SANDBOX (cutbox-door.mjs). By AI agents, Wed Nov 11 2026. No macro, syntax, notation, axiom, sorry.
-/
import Derived.Test.YtdcnfekcbijfgaaDoorRows
import GoSem.ClaimSeven
namespace Go.Proofs.YtdcnfekcbijfgaaDoor
namespace Rows

/-- THE TIED CARD OF 'concordancelaw02.SumSums'. -/
def sumSumsCard : Claim7 := { stood := { row := sumSumsRow, standIns := [], harness := (true, "f86cea509f5256fbf1a9f4b2fc2df8378408b25320bda5881a9374fa5a1e96ae"), looks := false }, kinds := [], alts := [], laidByText := true, laidKinds := [.data], laidTests := true, laidLooks := .later }
def SumSumsCardSaid : Prop := Claim7.holds Tryd.pinned (.plain (OpenSpec.ofChange sumSumsSpec)) sumSumsCard

/-- THE TIED CARD OF 'concordancelaw02.SumNumbers'. -/
def sumNumbersCard : Claim7 := { stood := { row := sumNumbersRow, standIns := [], harness := (true, "f86cea509f5256fbf1a9f4b2fc2df8378408b25320bda5881a9374fa5a1e96ae"), looks := false }, kinds := [], alts := [], laidByText := true, laidKinds := [.data], laidTests := true, laidLooks := .later }
def SumNumbersCardSaid : Prop := Claim7.holds Tryd.pinned (.plain (OpenSpec.ofChange sumNumbersSpec)) sumNumbersCard

/-- THE TIED CARD OF 'concordancelaw02.SumSpoilt'. -/
def sumSpoiltCard : Claim7 := { stood := { row := sumSpoiltRow, standIns := [], harness := (true, "f86cea509f5256fbf1a9f4b2fc2df8378408b25320bda5881a9374fa5a1e96ae"), looks := false }, kinds := [], alts := [], laidByText := true, laidKinds := [.data], laidTests := true, laidLooks := .later }
def SumSpoiltCardSaid : Prop := Claim7.holds Tryd.pinned (.plain (OpenSpec.ofChange sumSpoiltSpec)) sumSpoiltCard

/-- THE TIED CARD OF 'concordancelaw02.SumApart'. -/
def sumApartCard : Claim7 := { stood := { row := sumApartRow, standIns := [], harness := (true, "f86cea509f5256fbf1a9f4b2fc2df8378408b25320bda5881a9374fa5a1e96ae"), looks := false }, kinds := [], alts := [], laidByText := true, laidKinds := [.data], laidTests := true, laidLooks := .later }
def SumApartCardSaid : Prop := Claim7.holds Tryd.pinned (.plain (OpenSpec.ofChange sumApartSpec)) sumApartCard

/-- THE TIED CARD OF 'concordancelaw02.SumOrder'. -/
def sumOrderCard : Claim7 := { stood := { row := sumOrderRow, standIns := [], harness := (true, "f86cea509f5256fbf1a9f4b2fc2df8378408b25320bda5881a9374fa5a1e96ae"), looks := false }, kinds := [], alts := [], laidByText := true, laidKinds := [.data], laidTests := true, laidLooks := .later }
def SumOrderCardSaid : Prop := Claim7.holds Tryd.pinned (.plain (OpenSpec.ofChange sumOrderSpec)) sumOrderCard

/-- THE SECOND FORM's CARD OF 'concordancelaw02.SumSums'. -/
def sumSumsUptoCard : Claim7 := { stood := { row := sumSumsUptoRow, standIns := [], harness := (true, "f86cea509f5256fbf1a9f4b2fc2df8378408b25320bda5881a9374fa5a1e96ae"), looks := false }, kinds := [], alts := [], laidByText := true, laidKinds := [.data], laidTests := true, laidLooks := .later }
def SumSumsUptoCardSaid : Prop := Claim7.holds Tryd.pinned (.plain (OpenSpec.upto sumSumsSpec)) sumSumsUptoCard

/-- THE SECOND FORM's CARD OF 'concordancelaw02.SumNumbers'. -/
def sumNumbersUptoCard : Claim7 := { stood := { row := sumNumbersUptoRow, standIns := [], harness := (true, "f86cea509f5256fbf1a9f4b2fc2df8378408b25320bda5881a9374fa5a1e96ae"), looks := false }, kinds := [], alts := [], laidByText := true, laidKinds := [.data], laidTests := true, laidLooks := .later }
def SumNumbersUptoCardSaid : Prop := Claim7.holds Tryd.pinned (.plain (OpenSpec.upto sumNumbersSpec)) sumNumbersUptoCard

/-- THE SECOND FORM's CARD OF 'concordancelaw02.SumSpoilt'. -/
def sumSpoiltUptoCard : Claim7 := { stood := { row := sumSpoiltUptoRow, standIns := [], harness := (true, "f86cea509f5256fbf1a9f4b2fc2df8378408b25320bda5881a9374fa5a1e96ae"), looks := false }, kinds := [], alts := [], laidByText := true, laidKinds := [.data], laidTests := true, laidLooks := .later }
def SumSpoiltUptoCardSaid : Prop := Claim7.holds Tryd.pinned (.plain (OpenSpec.upto sumSpoiltSpec)) sumSpoiltUptoCard

/-- THE SECOND FORM's CARD OF 'concordancelaw02.SumApart'. -/
def sumApartUptoCard : Claim7 := { stood := { row := sumApartUptoRow, standIns := [], harness := (true, "f86cea509f5256fbf1a9f4b2fc2df8378408b25320bda5881a9374fa5a1e96ae"), looks := false }, kinds := [], alts := [], laidByText := true, laidKinds := [.data], laidTests := true, laidLooks := .later }
def SumApartUptoCardSaid : Prop := Claim7.holds Tryd.pinned (.plain (OpenSpec.upto sumApartSpec)) sumApartUptoCard

/-- THE SECOND FORM's CARD OF 'concordancelaw02.SumOrder'. -/
def sumOrderUptoCard : Claim7 := { stood := { row := sumOrderUptoRow, standIns := [], harness := (true, "f86cea509f5256fbf1a9f4b2fc2df8378408b25320bda5881a9374fa5a1e96ae"), looks := false }, kinds := [], alts := [], laidByText := true, laidKinds := [.data], laidTests := true, laidLooks := .later }
def SumOrderUptoCardSaid : Prop := Claim7.holds Tryd.pinned (.plain (OpenSpec.upto sumOrderSpec)) sumOrderUptoCard
end Rows
end Go.Proofs.YtdcnfekcbijfgaaDoor

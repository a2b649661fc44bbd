-- Written by a program of this seat out of the translation; Lean checks it.
import Derived.Test.YtdcnfekcbijfgaaDoorProg
import Derived.Test.YtdcnfekcbijfgaaDoorBase
import Derived.Lib.Bytealg
import Derived.Below
import Derived.Deep.Draws
import Derived.Deep.AppendLies
import Derived.Maps.AppendAt
import Derived.OwnWalk
import Derived.Laws.BytesArg
import Derived.Laws.MakeOwn
import Derived.Laws.OwnMore
import Derived.Deep.OwnRows
import Derived.Tactics
import Derived.Lib.ConvBytes
import Derived.Laws.Slices
import Derived.WalkKit
import Derived.KernelRfl
import Derived.RowKit3
import Derived.Deep.LoopGhost
import Derived.Deep.QuietTactic
import Derived.BigQuiet
import Derived.WideLaws
import Derived.Deep.DeepCutAuto
import Derived.Deep.CutBlock
import Derived.Deep.RegionHeld3
import Derived.Laws.Rows
import Derived.Lib.AppendStr
import Derived.ArgAppend
import Derived.Laws.IdiomCopy
import Derived.OrdersHeld
import Derived.Laws.BitsLemmas
import Derived.RowKit
import Derived.Test.YtdcnfekcbijfgaaDoorCrc
import Derived.Laws.BitsAllLaws
import Derived.Lib.Hide
import Derived.LoopTactic
import Derived.Outline
import Derived.Deep.RegionWith
import Derived.Deep.DeepFit
import Derived.Test.YtdcnfekcbijfgaaDoorWWords
import Derived.Test.YtdcnfekcbijfgaaDoorWLast
import Derived.Test.YtdcnfekcbijfgaaDoorWTab
import Derived.Test.YtdcnfekcbijfgaaDoorWFour
import Derived.Test.YtdcnfekcbijfgaaDoorWQPut
import Derived.Test.YtdcnfekcbijfgaaDoorWApart
import Derived.Test.YtdcnfekcbijfgaaDoorWArr
import Derived.Test.YtdcnfekcbijfgaaDoorWZeros
import Derived.Test.YtdcnfekcbijfgaaDoorWFoot
import Derived.Test.YtdcnfekcbijfgaaDoorWKept
import Derived.Test.YtdcnfekcbijfgaaDoorWShare
import Derived.Test.YtdcnfekcbijfgaaDoorWN
import Derived.Test.YtdcnfekcbijfgaaDoorWFootNe
import Derived.Test.YtdcnfekcbijfgaaDoorWAt
import Derived.Test.YtdcnfekcbijfgaaDoorWEqStruct
import Derived.Test.YtdcnfekcbijfgaaDoorWRepsOne
import Derived.Test.YtdcnfekcbijfgaaDoorWInv
import Derived.Test.YtdcnfekcbijfgaaDoorWInvWords
import Derived.Test.YtdcnfekcbijfgaaDoorWGuard
import Derived.Test.YtdcnfekcbijfgaaDoorWNEv
import Derived.Test.YtdcnfekcbijfgaaDoorWMore
namespace Go.Proofs.YtdcnfekcbijfgaaDoor.PA
open Go.RowKit Go.Proofs.YtdcnfekcbijfgaaDoorW.PrintWords Go.Proofs.YtdcnfekcbijfgaaDoorW.PrintLast Go.Proofs.YtdcnfekcbijfgaaDoorW.PrintMore
attribute [local go_sem] MyBase.max0 max2_int min2_int max_two min_two max_three min_three max_four min_four   -- for this text's walks alone
set_option linter.unusedVariables false
set_option linter.unusedSimpArgs false

/-- The table of four bits' turns lies where the program's start lays it. -/
def LaidT (w : World) : Prop := 0 < w.heap.size ∧ ∀ i, i < 16 → w.cell? ⟨0, i, none⟩ = some (.int .u32 ((CrcPlain.tab.getD i 0 : Nat) : Int))
theorem laid_below {w W : World} (h : LaidT w) (hb : Below w.heap.size w W) : LaidT W :=
  ⟨Nat.lt_of_lt_of_le h.1 hb.size, fun i hi => (hb.cell (p := ⟨0, i, none⟩) h.1).trans (h.2 i hi)⟩
theorem laid_drawn {w W : World} (h : LaidT w) (hb : Drawn0 w W) : LaidT W := laid_below h hb.below



def errW : Option Int → Value
  | none => .nilIface
  | some c => .iface 0 (.int .i64 c)
theorem errW_none : errW none = .nilIface := rfl
theorem errW_some (c : Int) : errW (some c) = .iface 0 (.int .i64 c) := rfl

theorem info5 : (Tryd.prog.info? 5).map (fun i => (i.zero, i.size, i.bytes)) = some (some (.int .u8 0), 1, 1) := by kernel_rfl
-- the values' own types

end Go.Proofs.YtdcnfekcbijfgaaDoor.PA

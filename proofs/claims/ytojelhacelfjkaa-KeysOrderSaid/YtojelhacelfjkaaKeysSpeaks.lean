/-
  Layer 1: the example that each statement begins with.
-/
import Derived.Test.YtojelhacelfjkaaByteBase
import Derived.Test.YtojelhacelfjkaaPAx6
set_option linter.unusedVariables false
namespace Go.Proofs.Ytojelhacelfjkaa.KB
open Go.RowKit Go.Proofs.Ytojelhacelfjkaa.PA Go.Proofs.Ytojelhacelfjkaa.BB Go.Proofs.YtojelhacelfjkaaW.PrintWords Go.Proofs.YtojelhacelfjkaaW.PrintLast Go.Proofs.YtojelhacelfjkaaW.PrintMore
set_option maxRecDepth 100000 in
theorem speaks40 : concordancelaw01_speaks.f 40 = some true := by decide +kernel
theorem speaks : Ev (fun k => concordancelaw01_speaks.f k) true := Ev.of (k := 40) (fun k => concordancelaw01_speaks.mono k) speaks40

end Go.Proofs.Ytojelhacelfjkaa.KB

/-
How the law CsvAgain reads its arguments, and the one pure statement that is left of it.
-/
import Derived.Test.YthmcapdakplhdaaDoorExtOpen
import Derived.Test.YthmcapdakplhdaaDoorPrx4
namespace Go.Proofs.YthmcapdakplhdaaDoor.csvAgain
open Go Go.RowKit Go.Proofs.YthmcapdakplhdaaDoor.Pr Go.Proofs.YthmcapdakplhdaaDoor.Opn Go.Proofs.YthmcapdakplhdaaDoorW.PrintWords Go.Proofs.YthmcapdakplhdaaDoorW.PrintLast Go.Proofs.YthmcapdakplhdaaDoorW.PrintMore
set_option linter.unusedVariables false

/-- THE ONE PURE STATEMENT of CsvAgain. -/
def PureG : Prop := ∀ (x0 : ByteArray) (x1 : ByteArray), x0.size ≤ 140737488351232 → x1.size ≤ 140737488351232 → ∃ k, refrainlaw4_CsvAgain.f k x0 x1 = some true
end Go.Proofs.YthmcapdakplhdaaDoor.csvAgain

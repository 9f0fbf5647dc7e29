/-
How the law CsvSplits reads its arguments, and the one pure statement that is left of it.
-/
import Derived.Test.YthmcapdakplhdaaDoorExtOpen
import Derived.Test.YthmcapdakplhdaaDoorPrx3
namespace Go.Proofs.YthmcapdakplhdaaDoor.csvSplits
open Go Go.RowKit Go.Proofs.YthmcapdakplhdaaDoor.Pr Go.Proofs.YthmcapdakplhdaaDoor.Opn Go.Proofs.YthmcapdakplhdaaDoorW.PrintWords Go.Proofs.YthmcapdakplhdaaDoorW.PrintLast Go.Proofs.YthmcapdakplhdaaDoorW.PrintMore
set_option linter.unusedVariables false

/-- THE ONE PURE STATEMENT of CsvSplits. -/
def PureG : Prop := ∀ (x0 : (List ByteArray)), LG 16 (fun x => x.size ≤ 140737488351232) x0 → ∃ k, refrainlaw4_CsvSplits.f k x0 = some true
end Go.Proofs.YthmcapdakplhdaaDoor.csvSplits

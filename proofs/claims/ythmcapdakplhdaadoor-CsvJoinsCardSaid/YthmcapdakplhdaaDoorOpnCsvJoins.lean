/-
How the law CsvJoins reads its arguments, and the one pure statement that is left of it.
-/
import Derived.Test.YthmcapdakplhdaaDoorExtOpen
import Derived.Test.YthmcapdakplhdaaDoorPrxJ
namespace Go.Proofs.YthmcapdakplhdaaDoor.csvJoins
open Go Go.RowKit Go.Proofs.YthmcapdakplhdaaDoor.Pr Go.Proofs.YthmcapdakplhdaaDoor.Opn Go.Proofs.YthmcapdakplhdaaDoorW.PrintWords Go.Proofs.YthmcapdakplhdaaDoorW.PrintLast Go.Proofs.YthmcapdakplhdaaDoorW.PrintMore
set_option linter.unusedVariables false

/-- THE ONE PURE STATEMENT of CsvJoins. -/
def PureG : Prop := ∀ (x0 : (List (List (List ByteArray)))), LG 24 (fun x => LG 24 (fun x => LG 16 (fun x => x.size ≤ 140737488351232) x) x) x0 → ∃ k, refrainlaw4_CsvJoins.f k x0 = some true
end Go.Proofs.YthmcapdakplhdaaDoor.csvJoins

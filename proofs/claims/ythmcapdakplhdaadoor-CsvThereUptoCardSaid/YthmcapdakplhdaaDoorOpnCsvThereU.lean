/-
How the law CsvThere reads its arguments where they are of bounded bulk, and the one pure statement that is left of it.
-/
import Derived.Test.YthmcapdakplhdaaDoorExtBulk
import Derived.Test.YthmcapdakplhdaaDoorPrx4
namespace Go.Proofs.YthmcapdakplhdaaDoor.csvThere
open Go Go.RowKit Go.Proofs.YthmcapdakplhdaaDoor.Pr Go.Proofs.YthmcapdakplhdaaDoor.Opn Go.Proofs.YthmcapdakplhdaaDoorW.PrintWords Go.Proofs.YthmcapdakplhdaaDoorW.PrintLast Go.Proofs.YthmcapdakplhdaaDoorW.PrintMore
set_option linter.unusedVariables false
/-- The bulk of rows. -/
def bulkM (x : List (List ByteArray)) : Nat := (x.map fun l => (l.map fun s : ByteArray => s.size + 1).sum + 1).sum + 1
/-- THE ONE PURE STATEMENT of CsvThere. -/
def PureG : Prop := ∀ (x0 : (List (List ByteArray))), LG 24 (fun x => LG 16 (fun x => x.size ≤ 140737488351232) x) x0 → bulkM x0 ≤ 1048576 → ∃ k, refrainlaw4_CsvThere.f k x0 = some true
end Go.Proofs.YthmcapdakplhdaaDoor.csvThere

/-
How the law ValueReads reads its arguments, and the one pure statement that is left of it.
-/
import Derived.Test.YthhpeeckiggpaaaDoorExtOpen
import Derived.Test.YthhpeeckiggpaaaDoorPrx12
namespace Go.Proofs.YthhpeeckiggpaaaDoor.valueReads
open Go Go.RowKit Go.Proofs.YthhpeeckiggpaaaDoor.Pr Go.Proofs.YthhpeeckiggpaaaDoor.Opn Go.Proofs.YthhpeeckiggpaaaDoorW.PrintWords Go.Proofs.YthhpeeckiggpaaaDoorW.PrintLast Go.Proofs.YthhpeeckiggpaaaDoorW.PrintMore
set_option linter.unusedVariables false

/-- THE ONE PURE STATEMENT of ValueReads. -/
def PureG : Prop := ∀ (x0 : (List ByteArray)), LG 16 (fun x => x.size ≤ 140737488351232) x0 → ∃ k, refrainlaw1_ValueReads.f k x0 = some true
end Go.Proofs.YthhpeeckiggpaaaDoor.valueReads

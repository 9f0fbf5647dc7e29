/-
How the law ValueRing reads its arguments, and the one pure statement that is left of it.
-/
import Derived.Test.YthhpeeckiggpaaaDoorExtOpen
import Derived.Test.YthhpeeckiggpaaaDoorPrx18
namespace Go.Proofs.YthhpeeckiggpaaaDoor.valueRing
open Go Go.RowKit Go.Proofs.YthhpeeckiggpaaaDoor.Pr Go.Proofs.YthhpeeckiggpaaaDoor.Opn Go.Proofs.YthhpeeckiggpaaaDoorW.PrintWords Go.Proofs.YthhpeeckiggpaaaDoorW.PrintLast Go.Proofs.YthhpeeckiggpaaaDoorW.PrintMore
set_option linter.unusedVariables false

/-- THE ONE PURE STATEMENT of ValueRing. -/
def PureG : Prop := ∀ (x0 : Int) (x1 : Int) (x2 : Int), (Lit.int .i64 x0).wf = true → (Lit.int .i64 x1).wf = true → (Lit.int .i64 x2).wf = true → ∃ k, refrainlaw1_ValueRing.f k x0 x1 x2 = some true
end Go.Proofs.YthhpeeckiggpaaaDoor.valueRing

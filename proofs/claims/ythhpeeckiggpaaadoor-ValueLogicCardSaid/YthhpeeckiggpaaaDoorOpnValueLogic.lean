/-
How the law ValueLogic reads its arguments, and the one pure statement that is left of it.
-/
import Derived.Test.YthhpeeckiggpaaaDoorExtOpen
import Derived.Test.YthhpeeckiggpaaaDoorPrx21
namespace Go.Proofs.YthhpeeckiggpaaaDoor.valueLogic
open Go Go.RowKit Go.Proofs.YthhpeeckiggpaaaDoor.Pr Go.Proofs.YthhpeeckiggpaaaDoor.Opn Go.Proofs.YthhpeeckiggpaaaDoorW.PrintWords Go.Proofs.YthhpeeckiggpaaaDoorW.PrintLast Go.Proofs.YthhpeeckiggpaaaDoorW.PrintMore
set_option linter.unusedVariables false
def G26 (x : S26) : Prop := (Lit.int .i64 x.f0).wf = true ∧ (Lit.int .i64 x.f1).wf = true ∧ x.f2.size ≤ 140737488351232 ∧ True
theorem op26 (n : Nat) : OpensN Tryd.prog (n + 1) 26 k26 G26 := by
  refine (opens_struct (t := 26) (fl := [(3, 0), (2, 1), (9, 2), (4, 3)]) Tryd.underlying26 (by rfl) (by kernel_rfl) (opensF_cons (opens_int Tryd.underlying3) (opensF_cons (opens_int Tryd.underlying2) (opensF_cons (opens_string Tryd.underlying9) (opensF_one (opens_bool Tryd.underlying4))))) (fun x : S26 => (x.f0, x.f1, x.f2, x.f3)) (fun p => (⟨p.1, p.2.1, p.2.2.1, p.2.2.2⟩ : S26)) (fun _ => rfl)).mono (fun x h => h)
/-- THE ONE PURE STATEMENT of ValueLogic. -/
def PureG : Prop := ∀ (x0 : Bool) (x1 : Bool) (x2 : S26) (x3 : S26), G26 x2 → G26 x3 → ∃ k, refrainlaw1_ValueLogic.f k x0 x1 x2.f0 x2.f1 x2.f2 x2.f3 x3.f0 x3.f1 x3.f2 x3.f3 = some true
end Go.Proofs.YthhpeeckiggpaaaDoor.valueLogic

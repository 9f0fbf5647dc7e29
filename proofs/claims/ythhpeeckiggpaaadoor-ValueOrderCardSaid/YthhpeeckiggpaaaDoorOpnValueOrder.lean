/-
How the law ValueOrder reads its arguments, and the one pure statement that is left of it.
-/
import Derived.Test.YthhpeeckiggpaaaDoorExtOpen
import Derived.Test.YthhpeeckiggpaaaDoorPrx15
namespace Go.Proofs.YthhpeeckiggpaaaDoor.valueOrder
open Go Go.RowKit Go.Proofs.YthhpeeckiggpaaaDoor.Pr Go.Proofs.YthhpeeckiggpaaaDoor.Opn Go.Proofs.YthhpeeckiggpaaaDoorW.PrintWords Go.Proofs.YthhpeeckiggpaaaDoorW.PrintLast Go.Proofs.YthhpeeckiggpaaaDoorW.PrintMore
set_option linter.unusedVariables false
def G26 (x : S26) : Prop := (Lit.int .i64 x.f0).wf = true ∧ (Lit.int .i64 x.f1).wf = true ∧ x.f2.size ≤ 140737488351232 ∧ True
theorem op26 (n : Nat) : OpensN Tryd.prog (n + 1) 26 k26 G26 := by
  refine (opens_struct (t := 26) (fl := [(3, 0), (2, 1), (9, 2), (4, 3)]) Tryd.underlying26 (by rfl) (by kernel_rfl) (opensF_cons (opens_int Tryd.underlying3) (opensF_cons (opens_int Tryd.underlying2) (opensF_cons (opens_string Tryd.underlying9) (opensF_one (opens_bool Tryd.underlying4))))) (fun x : S26 => (x.f0, x.f1, x.f2, x.f3)) (fun p => (⟨p.1, p.2.1, p.2.2.1, p.2.2.2⟩ : S26)) (fun _ => rfl)).mono (fun x h => h)
/-- THE ONE PURE STATEMENT of ValueOrder. -/
def PureG : Prop := ∀ (x0 : S26) (x1 : S26) (x2 : S26), G26 x0 → G26 x1 → G26 x2 → ∃ k, refrainlaw1_ValueOrder.f k x0.f0 x0.f1 x0.f2 x0.f3 x1.f0 x1.f1 x1.f2 x1.f3 x2.f0 x2.f1 x2.f2 x2.f3 = some true
end Go.Proofs.YthhpeeckiggpaaaDoor.valueOrder

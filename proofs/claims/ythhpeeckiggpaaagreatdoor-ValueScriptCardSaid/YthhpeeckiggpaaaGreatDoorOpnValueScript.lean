/-
How the law ValueScript reads its arguments, and the one pure statement that is left of it.
-/
import Derived.Test.YthhpeeckiggpaaaGreatDoorExtOpen
import Derived.Test.YthhpeeckiggpaaaGreatDoorPrx9
namespace Go.Proofs.YthhpeeckiggpaaaGreatDoor.valueScript
open Go Go.RowKit Go.Proofs.YthhpeeckiggpaaaGreatDoor.Pr Go.Proofs.YthhpeeckiggpaaaGreatDoor.Opn Go.Proofs.YthhpeeckiggpaaaGreatDoorW.PrintWords Go.Proofs.YthhpeeckiggpaaaGreatDoorW.PrintLast Go.Proofs.YthhpeeckiggpaaaGreatDoorW.PrintMore
set_option linter.unusedVariables false
def G27 (x : S27) : Prop := (Lit.int .i64 x.f0).wf = true ∧ (Lit.int .i64 x.f1).wf = true ∧ x.f2.size ≤ 140737488351232 ∧ True
theorem op27 (n : Nat) : OpensN Tryz.prog (n + 1) 27 k27 G27 := by
  refine (opens_struct (t := 27) (fl := [(3, 0), (2, 1), (9, 2), (4, 3)]) Tryz.underlying27 (by rfl) (by kernel_rfl) (opensF_cons (opens_int Tryz.underlying3) (opensF_cons (opens_int Tryz.underlying2) (opensF_cons (opens_string Tryz.underlying9) (opensF_one (opens_bool Tryz.underlying4))))) (fun x : S27 => (x.f0, x.f1, x.f2, x.f3)) (fun p => (⟨p.1, p.2.1, p.2.2.1, p.2.2.2⟩ : S27)) (fun _ => rfl)).mono (fun x h => h)
def G29 (x : S29) : Prop := (Lit.int .i64 x.f0).wf = true ∧ G27 x.f1 ∧ G27 x.f2 ∧ x.f3.size ≤ 140737488351232 ∧ (Lit.int .i64 x.f4).wf = true
theorem op29 (n : Nat) : OpensN Tryz.prog (n + 2) 29 k29 G29 := by
  refine (opens_struct (t := 29) (fl := [(3, 0), (27, 1), (27, 5), (9, 9), (3, 10)]) Tryz.underlying29 (by rfl) (by kernel_rfl) (opensF_cons (opens_int Tryz.underlying3) (opensF_cons (op27 n) (opensF_cons (op27 n) (opensF_cons (opens_string Tryz.underlying9) (opensF_one (opens_int Tryz.underlying3)))))) (fun x : S29 => (x.f0, x.f1, x.f2, x.f3, x.f4)) (fun p => (⟨p.1, p.2.1, p.2.2.1, p.2.2.2.1, p.2.2.2.2⟩ : S29)) (fun _ => rfl)).mono (fun x h => h)
/-- THE ONE PURE STATEMENT of ValueScript. -/
def PureG : Prop := ∀ (x0 : (List S29)), LG 112 (fun x => G29 x) x0 → ∃ k, refrainlaw1_ValueScript.f k x0 = some true
end Go.Proofs.YthhpeeckiggpaaaGreatDoor.valueScript

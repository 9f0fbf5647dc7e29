/-
How the law TokenFilled reads its arguments, and the one pure statement that is left of it.
-/
import Derived.Test.YthmcapdakplhdaaDoorExtOpen
import Derived.Test.YthmcapdakplhdaaDoorPrx20
namespace Go.Proofs.YthmcapdakplhdaaDoor.tokenFilled
open Go Go.RowKit Go.Proofs.YthmcapdakplhdaaDoor.Pr Go.Proofs.YthmcapdakplhdaaDoor.Opn Go.Proofs.YthmcapdakplhdaaDoorW.PrintWords Go.Proofs.YthmcapdakplhdaaDoorW.PrintLast Go.Proofs.YthmcapdakplhdaaDoorW.PrintMore
set_option linter.unusedVariables false
def G44 (x : S44) : Prop := (Lit.int .i64 x.f0).wf = true ∧ x.f1.size ≤ 140737488351232 ∧ (Lit.int .i64 x.f2).wf = true
theorem op44 (n : Nat) : OpensN Tryd.prog (n + 1) 44 k44 G44 := by
  refine (opens_struct (t := 44) (fl := [(3, 0), (9, 1), (3, 2)]) Tryd.underlying44 (by rfl) (by kernel_rfl) (opensF_cons (opens_int Tryd.underlying3) (opensF_cons (opens_string Tryd.underlying9) (opensF_one (opens_int Tryd.underlying3)))) (fun x : S44 => (x.f0, x.f1, x.f2)) (fun p => (⟨p.1, p.2.1, p.2.2⟩ : S44)) (fun _ => rfl)).mono (fun x h => h)
/-- THE ONE PURE STATEMENT of TokenFilled. -/
def PureG : Prop := ∀ (x0 : (List S44)) (x1 : (List Int)) (x2 : ByteArray), LG 32 (fun x => G44 x) x0 → LG 1 (fun x => (Lit.int .u8 x).wf = true) x1 → x2.size ≤ 140737488351232 → ∃ k, refrainlaw5_TokenFilled.f k x0 x1 x2 = some true
end Go.Proofs.YthmcapdakplhdaaDoor.tokenFilled

import Derived.Test.YthhpeeckiggpaaaDoorPvOps
import Derived.Test.YthhpeeckiggpaaaDoorPrx16
namespace Go.Proofs.YthhpeeckiggpaaaDoor.Pv
open Go.RowKit Go.Proofs.YthhpeeckiggpaaaDoor.Pu Go.Proofs.YthhpeeckiggpaaaDoor.Pr Go.Proofs.YthhpeeckiggpaaaDoorW.PrintWords Go.Proofs.YthhpeeckiggpaaaDoorW.PrintLast Go.Proofs.YthhpeeckiggpaaaDoorW.PrintMore
set_option linter.unusedVariables false
set_option linter.unusedSimpArgs false

def unS (op : Int) (x : SV) : Int × Int × ByteArray × Bool × Int :=
  if refS op 1 2 [x] = 0 then (if op = 1 then (1, wrap64 (-x.f1), ⟨#[]⟩, false, 0) else (3, 0, ⟨#[]⟩, !x.f3, 0)) else (0, 0, ⟨#[]⟩, false, refS op 1 2 [x])
theorem unary_ev (op : Int) (x : SV) : Ev (fun k => value_Unary.f k op x.f0 x.f1 x.f2 x.f3) (unS op x) := by
  unfold value_Unary.f unS
  refine Ev.bind (f := fun k t => _) (Ev.of (fun k => value_refusal.mono _ _ _ _ k) (ref1 op 1 2 x (by omega) (by omega))) ?_
  generalize refS op 1 2 [x] = r
  by_cases h : r = 0
  · simp only [if_pos h]
    by_cases h3 : op = 1
    · simp only [if_pos h3, value_number.f, Option.bind_some]; exact Ev.now _
    simp only [if_neg h3, value_truth.f, Option.bind_some]
    exact Ev.now _
  · simp only [if_neg h]; exact Ev.now _
end Go.Proofs.YthhpeeckiggpaaaDoor.Pv

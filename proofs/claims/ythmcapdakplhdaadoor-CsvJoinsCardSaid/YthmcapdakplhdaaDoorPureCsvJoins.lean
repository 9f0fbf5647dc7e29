/-
CsvJoins, in plain words: no slice that fits memory is too long for what the law makes beside it.
-/
import Derived.Test.YthmcapdakplhdaaDoorOpnCsvJoins
namespace Go.Proofs.YthmcapdakplhdaaDoor.csvJoins
open Go Go.RowKit Go.Proofs.YthmcapdakplhdaaDoor.Pr Go.Proofs.YthmcapdakplhdaaDoor.Opn Go.Proofs.YthmcapdakplhdaaDoorW.PrintWords Go.Proofs.YthmcapdakplhdaaDoorW.PrintLast Go.Proofs.YthmcapdakplhdaaDoorW.PrintMore
theorem pureG : PureG := by
  intro x h
  obtain ⟨_, h0, h1⟩ := h
  refine ⟨0, ?_⟩
  unfold refrainlaw4_CsvJoins.f
  rw [if_pos]
  refine ⟨by omega, fun r hr => ?_, fun r hr s hs => ?_⟩
  · obtain ⟨_, h2, _⟩ := h1 r hr
    omega
  · obtain ⟨_, _, h3⟩ := h1 r hr
    obtain ⟨_, h4, _⟩ := h3 s hs
    omega
end Go.Proofs.YthmcapdakplhdaaDoor.csvJoins

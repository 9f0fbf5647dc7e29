/-
CsvSplits, in plain words: whatever the texts, the program's rows (or error and place) are the document's.
-/
import Derived.Test.YthmcapdakplhdaaDoorOpnCsvSplits
import Derived.Test.YthmcapdakplhdaaDoorPuCsv
namespace Go.Proofs.YthmcapdakplhdaaDoor.csvSplits
open Go Go.RowKit Go.Proofs.YthmcapdakplhdaaDoor.Pr Go.Proofs.YthmcapdakplhdaaDoor.Opn Go.Proofs.YthmcapdakplhdaaDoor.PuCsv Go.Proofs.YthmcapdakplhdaaDoorW.PrintWords Go.Proofs.YthmcapdakplhdaaDoorW.PrintLast Go.Proofs.YthmcapdakplhdaaDoorW.PrintMore
theorem loop (x : List ByteArray) (hb : x.length ≤ 4611686018427387904) : ∀ n i, i + n = x.length → Ev (fun k => refrainlaw4_CsvSplits.l0 k x (i : Int)) true
  | 0, i, h => by
    refine Ev.step (f := fun _ => some true) (fun k => ?_) (Ev.now _)
    simp only [refrainlaw4_CsvSplits.l0]
    rw [if_neg (by omega)]
  | n + 1, i, h => by
    refine Ev.step (f := fun k => (refrainlaw4_same.f k (splB (rdOf ByteArray.empty x (i : Int))).1 (splB (rdOf ByteArray.empty x (i : Int))).1).bind fun t => if t = true then refrainlaw4_CsvSplits.l0 k x ((i + 1 : Nat) : Int) else some false) (fun k => ?_) ?_
    · simp only [refrainlaw4_CsvSplits.l0]
      rw [if_pos (by omega), if_pos (by omega), w64 i (by omega)]
      unfold csv_Split.f refrainref4_Split.f
      rw [refB_spl, Option.bind_some, Option.bind_some, if_pos rfl, if_pos rfl]
    · have hs := spl_small2 (rdOf ByteArray.empty x (i : Int))
      refine Ev.bind (same_self _ (by have := hs.2; omega) (fun r hr => by have := hs.1 r hr; omega)) ?_
      simp only [if_true]
      exact loop x hb n (i + 1) (by omega)
theorem pureG : PureG := by
  intro x hx
  have hb : x.length ≤ 4611686018427387904 := by
    have := hx.2.1
    omega
  have h : Ev (fun k => refrainlaw4_CsvSplits.f k x) true := by
    refine Ev.congr (fun k => ?_) (loop x hb x.length 0 (by omega))
    unfold refrainlaw4_CsvSplits.f
    rw [begun_true, Option.bind_some, if_pos rfl]
    rfl
  exact h.rounds
end Go.Proofs.YthmcapdakplhdaaDoor.csvSplits

/-
The law CsvAgain: for every input that the row speaks of, the call returns true, and each argument reads as before. Conditions: the row's own (the listed package-level variables as the program's text lays them: tied by the card).
-/
import Derived.Test.YthmcapdakplhdaaDoorExtSh
import Derived.Test.YthmcapdakplhdaaDoorRows
import Derived.Test.YthmcapdakplhdaaDoorOpnCsvAgain
import Derived.Test.YthmcapdakplhdaaDoorPureCsvAgain
import Derived.Test.YthmcapdakplhdaaDoorTie
import Derived.Test.YthmcapdakplhdaaDoorCards
import Derived.SevenTiedAt
import Derived.Lay
import Derived.LaidMore
import Derived.Stop.Joined
import Derived.LaidLaws
import Derived.LaidHandle
import Derived.Stop.LaidErr
import Derived.Handed
import Derived.WalkKit
import Derived.ProofKit
import Derived.OpenShut
import Derived.ShutString
import Derived.ChangeOld
import Derived.Below
import Derived.SizedLaws
import Derived.Lib.LaidTab
import Derived.WideShapes
namespace Go.Proofs.YthmcapdakplhdaaDoor.csvAgain
open Go Go.ChangeShapes Go.WideShapes Go.ChangeAt Go.RowKit Go.Proofs.YthmcapdakplhdaaDoor.Pr Go.Proofs.YthmcapdakplhdaaDoor.Opn Go.Proofs.YthmcapdakplhdaaDoorW.PrintWords Go.Proofs.YthmcapdakplhdaaDoorW.PrintLast Go.Proofs.YthmcapdakplhdaaDoorW.PrintMore
set_option linter.unusedVariables false
theorem own : ownKnob Tryd.prog.godebug = none := by kernel_rfl
theorem laidOut : laidOutB Tryd.prog = true := by kernel_rfl
set_option maxRecDepth 100000 in
set_option maxHeartbeats 4000000 in
theorem lifted (os : Os) (started : os.Started) (H : Type) (enc : TypeId × Value → H) :
    ReturnsInHanded {} Tryd.checked os 6 .any (fun w args => (Rows.csvAgainSpec.pre enc Tryd.prog Tryd.f6 [] false w args ∧ laidMetH Tryd.prog Rows.csvAgainRow.laid w) ∧ sizedMet enc Tryd.prog Tryd.f6 (OpenSpec.ofChange Rows.csvAgainSpec) false w args) (Rows.csvAgainSpec.post enc Tryd.prog Tryd.f6 false true false false) := by
  refine handed_shaped (C := Tryd.checked) (X := fun w _ => laidMetH Tryd.prog Rows.csvAgainRow.laid w) (fun _ _ _ hh h => h.of_heap hh) own started (by kernel_rfl) Tryd.func6
    (ChangeSpec.witness_shaped (enc := enc) (C := Tryd.checked) (os := os) (X := fun w _ => laidMetH Tryd.prog Rows.csvAgainRow.laid w) false (World.laidAll Tryd.prog os Rows.csvAgainRow.laid) #[.string ByteArray.empty, .string ByteArray.empty] 8 (World.laidAll_os _ _ _)
      (World.shaped_of_ZipB (by kernel_rfl) (by kernel_rfl)) (by kernel_rfl) (by kernel_rfl) (by kernel_rfl)
      (by rw [MakeChecks.laidMetH_plain _ _ _ (by kernel_rfl)]; exact laidMet_laidAll _ (by kernel_rfl) (by kernel_rfl))) ?_
  intro W base args ds gs before hval0 hW hcnd hsz0 hLS _
  obtain ⟨hL, hSH⟩ := hLS
  have hsz : (DataW.weightsEach Tryd.prog (Tryd.f6.params.toList ++ Rows.csvAgainSpec.plain.varTypes Tryd.prog) (ds ++ gs)).all (· ≤ reachBytes) = true := hsz0
  have hval : ∀ (j : Nat) t v, Tryd.f6.params[j]? = some t → args[j]? = some v → Value.okWide Tryd.prog W .any base t v := hval0
  have hW' := hW
  obtain ⟨p, q, hA0, hV, rfl, hfz, hnd⟩ := hW
  have hA : DataW.TrodAll enc Tryd.prog W 0 (fun _ => true) true Tryd.f6.params.toList args.toList ds p := hA0
  rw [Tryd.params6] at hA hval hsz
  obtain ⟨v0, vs0, d0, ds0, p0, q0, hargs, rfl, rfl, h0, r0⟩ := trodAll_cons hA
  obtain ⟨v1, vs1, d1, ds1, p1, q1, rfl, rfl, rfl, h1, r1⟩ := trodAll_cons r0
  obtain ⟨rfl, rfl, rfl⟩ := trodAll_nil r1
  obtain rfl : args = #[v0, v1] := by cases args; simp_all
  obtain ⟨rfl, rfl⟩ := trodVars_none hV
  have k0 := h0
  have lt0 : ∀ x ∈ p0, x.block < W.heap.size := by obtain ⟨m, hm⟩ := k0; exact DataW.trod_lt m _ _ _ hm
  obtain ⟨m0, hm0⟩ := h0
  have hw0 : ∀ m ∈ d0.weights Tryd.prog 9, m ≤ reachBytes := fun m hm => by simpa using List.all_eq_true.1 hsz m (DataW.weights_mem_each (j := 0) (t := 9) (d := d0) rfl rfl m hm)
  obtain ⟨x0, hK0, hG0⟩ := (show OpensN Tryd.prog (m0 + 0) 9 Kd.string (fun x => x.size ≤ 140737488351232) from by have n := m0; exact (opens_string Tryd.underlying9)) H enc W true m0 (Nat.le_add_right _ _) v0.cells.toList (d0, p0) hm0 hw0
  obtain ⟨a0, rfl⟩ := okWide_string Tryd.underlying9 (hval 0 9 v0 rfl rfl)
  obtain rfl : a0 = x0 := by simpa [Value.cells, Kd.int, Kd.bool, Kd.string, Kd.scalar] using hK0
  have k1 := h1
  have lt1 : ∀ x ∈ p1, x.block < W.heap.size := by obtain ⟨m, hm⟩ := k1; exact DataW.trod_lt m _ _ _ hm
  obtain ⟨m1, hm1⟩ := h1
  have hw1 : ∀ m ∈ d1.weights Tryd.prog 9, m ≤ reachBytes := fun m hm => by simpa using List.all_eq_true.1 hsz m (DataW.weights_mem_each (j := 1) (t := 9) (d := d1) rfl rfl m hm)
  obtain ⟨x1, hK1, hG1⟩ := (show OpensN Tryd.prog (m1 + 0) 9 Kd.string (fun x => x.size ≤ 140737488351232) from by have n := m1; exact (opens_string Tryd.underlying9)) H enc W true m1 (Nat.le_add_right _ _) v1.cells.toList (d1, p1) hm1 hw1
  obtain ⟨a1, rfl⟩ := okWide_string Tryd.underlying9 (hval 1 9 v1 rfl rfl)
  obtain rfl : a1 = x1 := by simpa [Value.cells, Kd.int, Kd.bool, Kd.string, Kd.scalar] using hK1
  clear hA0 hval0 hsz0 hsz
  obtain ⟨k, h⟩ := pureG a0 a1 hG0 hG1
  refine (refrainlaw4_CsvAgain.calls k a0 a1 true W  ⟨LMax_of hSH⟩ h).mono fun e W' hpost => ?_
  obtain ⟨he, bel0⟩ := hpost
  have bel : Below W.heap.size W W' := bel0
  subst he
  exact ⟨_, rfl, _, _, _, [], _, [], hW', trodAll_mk1 (shut_bool Tryd.underlying4 _), (trodAll_cons_mk (Below.trod laidOut (by kernel_rfl) (of_decide_eq_true (by kernel_rfl)) k0 bel lt0) (trodAll_cons_mk (Below.trod laidOut (by kernel_rfl) (of_decide_eq_true (by kernel_rfl)) k1 bel lt1) trodAll_mk0)), rfl, bel.frame _, fun h => by cases h⟩
theorem over : Rows.csvAgainRow.holds Tryd.pinned (OpenSpec.ofChange Rows.csvAgainSpec) :=
  OpenClaim.holds_of_wide 6 Tryd.f6 rfl rfl rfl rfl rfl rfl rfl ⟨rfl, rfl, rfl, rfl, rfl⟩ rfl rfl rfl rfl rfl (by kernel_rfl) Tryd.func6 (by kernel_rfl)
    (of_decide_eq_true (by kernel_rfl)) (by unfold Func.isWrapper; first | (rw [if_pos (by decide +kernel)]; kernel_rfl) | (rw [if_neg (by decide +kernel)]; exact ⟨rfl, rfl⟩))
    (fun os started H enc _ => lifted os started H enc)
theorem proved : Rows.CsvAgainSaid := over
end Go.Proofs.YthmcapdakplhdaaDoor.csvAgain
namespace Go.Proofs.YthmcapdakplhdaaDoor
open Go
/-- The tied card. -/
theorem csvAgain_card_holds : Rows.CsvAgainCardSaid :=
  Claim7.holds_tied_plain_at .later [] [.data, .pinned] true (true, "d5eee023370d8429767185795d476ec4da6aaed6f9fa1ad4cf5c24b56df21a7c") true
    csvAgain.proved (fun _ h => by cases h) (by kernel_rfl) (fun _ h => by cases h) csvAgain_row_tie rfl ⟨rfl, rfl⟩ (by kernel_rfl) rfl
    (fun f fn hf hfn => by
      obtain rfl : f = 6 := Option.some.inj ((show Tryd.prog.funcNamed "refrain/refrainlaw4.CsvAgain" = some 6 by kernel_rfl).symm.trans hf) |>.symm
      obtain rfl : fn = Tryd.f6 := (Option.some.inj (Tryd.func6.symm.trans hfn)).symm
      exact ⟨by kernel_rfl, fun j t ht => by
        rw [Tryd.params6] at ht
        have h3 : t = 9 := by
          have h4 := List.mem_of_getElem? (by simpa using ht)
          simpa using h4
        rcases h3 with rfl
        · exact (show Tryd.prog.wantsStandIn 9 = false by kernel_rfl)⟩)
    (by kernel_rfl)
end Go.Proofs.YthmcapdakplhdaaDoor

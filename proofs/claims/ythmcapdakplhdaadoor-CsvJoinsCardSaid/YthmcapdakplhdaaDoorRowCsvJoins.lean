/-
The law CsvJoins: for every input that the row speaks of, the call returns true, and each argument reads as before. Conditions: the row's own (the listed package-level variables as the program's text lays them: tied by the card).
-/
import Derived.Test.YthmcapdakplhdaaDoorExtSh
import Derived.Test.YthmcapdakplhdaaDoorRows
import Derived.Test.YthmcapdakplhdaaDoorOpnCsvJoins
import Derived.Test.YthmcapdakplhdaaDoorPureCsvJoins
import Derived.Test.YthmcapdakplhdaaDoorTie
import Derived.Test.YthmcapdakplhdaaDoorCards
import Derived.SevenTiedAt
import Derived.Lay
import Derived.LaidMore
import Derived.Stop.Joined
import Derived.LaidLaws
import Derived.LaidHandle
import Derived.Stop.LaidErr
import Derived.Handed
import Derived.WalkKit
import Derived.ProofKit
import Derived.OpenShut
import Derived.ShutString
import Derived.ChangeOld
import Derived.Below
import Derived.SizedLaws
import Derived.Lib.LaidTab
import Derived.WideShapes
namespace Go.Proofs.YthmcapdakplhdaaDoor.csvJoins
open Go Go.ChangeShapes Go.WideShapes Go.ChangeAt Go.RowKit Go.Proofs.YthmcapdakplhdaaDoor.Pr Go.Proofs.YthmcapdakplhdaaDoor.Opn Go.Proofs.YthmcapdakplhdaaDoorW.PrintWords Go.Proofs.YthmcapdakplhdaaDoorW.PrintLast Go.Proofs.YthmcapdakplhdaaDoorW.PrintMore
set_option linter.unusedVariables false
theorem own : ownKnob Tryd.prog.godebug = none := by kernel_rfl
theorem laidOut : laidOutB Tryd.prog = true := by kernel_rfl
set_option maxRecDepth 100000 in
set_option maxHeartbeats 4000000 in
theorem lifted (os : Os) (started : os.Started) (H : Type) (enc : TypeId × Value → H) :
    ReturnsInHanded {} Tryd.checked os 4 .any (fun w args => (Rows.csvJoinsSpec.pre enc Tryd.prog Tryd.f4 [] false w args ∧ laidMetH Tryd.prog Rows.csvJoinsRow.laid w) ∧ sizedMet enc Tryd.prog Tryd.f4 (OpenSpec.ofChange Rows.csvJoinsSpec) false w args) (Rows.csvJoinsSpec.post enc Tryd.prog Tryd.f4 false true false false) := by
  refine handed_shaped (C := Tryd.checked) (X := fun w _ => laidMetH Tryd.prog Rows.csvJoinsRow.laid w) (fun _ _ _ hh h => h.of_heap hh) own started (by kernel_rfl) Tryd.func4
    (ChangeSpec.witness_shaped (enc := enc) (C := Tryd.checked) (os := os) (X := fun w _ => laidMetH Tryd.prog Rows.csvJoinsRow.laid w) false (World.laidAll Tryd.prog os Rows.csvJoinsRow.laid) #[.slice none 0 0] 8 (World.laidAll_os _ _ _)
      (World.shaped_of_ZipB (by kernel_rfl) (by kernel_rfl)) (by kernel_rfl) (by kernel_rfl) (by kernel_rfl)
      (by rw [MakeChecks.laidMetH_plain _ _ _ (by kernel_rfl)]; exact laidMet_laidAll _ (by kernel_rfl) (by kernel_rfl))) ?_
  intro W base args ds gs before hval0 hW hcnd hsz0 hLS _
  obtain ⟨hL, hSH⟩ := hLS
  have hsz : (DataW.weightsEach Tryd.prog (Tryd.f4.params.toList ++ Rows.csvJoinsSpec.plain.varTypes Tryd.prog) (ds ++ gs)).all (· ≤ reachBytes) = true := hsz0
  have hval : ∀ (j : Nat) t v, Tryd.f4.params[j]? = some t → args[j]? = some v → Value.okWide Tryd.prog W .any base t v := hval0
  have hW' := hW
  obtain ⟨p, q, hA0, hV, rfl, hfz, hnd⟩ := hW
  have hA : DataW.TrodAll enc Tryd.prog W 0 (fun _ => true) true Tryd.f4.params.toList args.toList ds p := hA0
  rw [Tryd.params4] at hA hval hsz
  obtain ⟨v0, vs0, d0, ds0, p0, q0, hargs, rfl, rfl, h0, r0⟩ := trodAll_cons hA
  obtain ⟨rfl, rfl, rfl⟩ := trodAll_nil r0
  obtain rfl : args = #[v0] := by cases args; simp_all
  obtain ⟨rfl, rfl⟩ := trodVars_none hV
  have k0 := h0
  have lt0 : ∀ x ∈ p0, x.block < W.heap.size := by obtain ⟨m, hm⟩ := k0; exact DataW.trod_lt m _ _ _ hm
  obtain ⟨m0, hm0⟩ := h0
  have hw0 : ∀ m ∈ d0.weights Tryd.prog 30, m ≤ reachBytes := fun m hm => by simpa using List.all_eq_true.1 hsz m (DataW.weights_mem_each (j := 0) (t := 30) (d := d0) rfl rfl m hm)
  obtain ⟨x0, hK0, hG0⟩ := (show OpensN Tryd.prog (m0 + 3) 30 (Kd.slice 24 (Kd.slice 22 (Kd.slice 9 Kd.string))) (fun x => LG 24 (fun x => LG 24 (fun x => LG 16 (fun x => x.size ≤ 140737488351232) x) x) x) from by have n := m0; exact (opens_slice (e := 24) Tryd.underlying30 (by kernel_rfl) (B := 24) (by kernel_rfl) (opens_slice (e := 22) Tryd.underlying24 (by kernel_rfl) (B := 24) (by kernel_rfl) (opens_slice (e := 9) Tryd.underlying22 (by kernel_rfl) (B := 16) (by kernel_rfl) (opens_string Tryd.underlying9))))) H enc W true m0 (Nat.le_add_right _ _) v0.cells.toList (d0, p0) hm0 hw0
  obtain ⟨A0_, len0, c0_, rfl⟩ := okWide_slice Tryd.underlying30 (hval 0 30 v0 rfl rfl)
  obtain ⟨A0, c0, hcs0, hc0, hr0⟩ := hK0
  obtain ⟨rfl, rfl, rfl⟩ : A0 = A0_ ∧ len0 = x0.length ∧ c0 = c0_ := by have h_ := hcs0; simp [Value.cells] at h_; exact ⟨h_.1.symm, h_.2.1, h_.2.2.symm⟩
  clear hA0 hval0 hsz0 hsz
  obtain ⟨k, h⟩ := pureG x0 hG0
  refine (refrainlaw4_CsvJoins.calls k A0 c0 x0 true W hr0 hc0 ⟨LMax_of hSH⟩ h).mono fun e W' hpost => ?_
  obtain ⟨he, bel0⟩ := hpost
  have bel : Below W.heap.size W W' := bel0
  subst he
  exact ⟨_, rfl, _, _, _, [], _, [], hW', trodAll_mk1 (shut_bool Tryd.underlying4 _), (trodAll_cons_mk (Below.trod laidOut (by kernel_rfl) (of_decide_eq_true (by kernel_rfl)) k0 bel lt0) trodAll_mk0), rfl, bel.frame _, fun h => by cases h⟩
theorem over : Rows.csvJoinsRow.holds Tryd.pinned (OpenSpec.ofChange Rows.csvJoinsSpec) :=
  OpenClaim.holds_of_wide 4 Tryd.f4 rfl rfl rfl rfl rfl rfl rfl ⟨rfl, rfl, rfl, rfl, rfl⟩ rfl rfl rfl rfl rfl (by kernel_rfl) Tryd.func4 (by kernel_rfl)
    (of_decide_eq_true (by kernel_rfl)) (by unfold Func.isWrapper; first | (rw [if_pos (by decide +kernel)]; kernel_rfl) | (rw [if_neg (by decide +kernel)]; exact ⟨rfl, rfl⟩))
    (fun os started H enc _ => lifted os started H enc)
theorem proved : Rows.CsvJoinsSaid := over
end Go.Proofs.YthmcapdakplhdaaDoor.csvJoins
namespace Go.Proofs.YthmcapdakplhdaaDoor
open Go
/-- The tied card. -/
theorem csvJoins_card_holds : Rows.CsvJoinsCardSaid :=
  Claim7.holds_tied_plain_at .later [] [.data, .pinned] true (true, "d5eee023370d8429767185795d476ec4da6aaed6f9fa1ad4cf5c24b56df21a7c") true
    csvJoins.proved (fun _ h => by cases h) (by kernel_rfl) (fun _ h => by cases h) csvJoins_row_tie rfl ⟨rfl, rfl⟩ (by kernel_rfl) rfl
    (fun f fn hf hfn => by
      obtain rfl : f = 4 := Option.some.inj ((show Tryd.prog.funcNamed "refrain/refrainlaw4.CsvJoins" = some 4 by kernel_rfl).symm.trans hf) |>.symm
      obtain rfl : fn = Tryd.f4 := (Option.some.inj (Tryd.func4.symm.trans hfn)).symm
      exact ⟨by kernel_rfl, fun j t ht => by
        rw [Tryd.params4] at ht
        have h3 : t = 30 := by
          have h4 := List.mem_of_getElem? (by simpa using ht)
          simpa using h4
        rcases h3 with rfl
        · exact (show Tryd.prog.wantsStandIn 30 = false by kernel_rfl)⟩)
    (by kernel_rfl)
end Go.Proofs.YthmcapdakplhdaaDoor

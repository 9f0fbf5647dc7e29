/-
The law TokenFilled: for every input that the row speaks of, the call returns true, and each argument reads as before. Conditions: the row's own (the listed package-level variables as the program's text lays them: tied by the card).
-/
import Derived.Test.YthmcapdakplhdaaDoorRows
import Derived.Test.YthmcapdakplhdaaDoorOpnTokenFilled
import Derived.Test.YthmcapdakplhdaaDoorPureTokenFilled
import Derived.Test.YthmcapdakplhdaaDoorTie
import Derived.Test.YthmcapdakplhdaaDoorCards
import Derived.SevenTiedAt
import Derived.Lay
import Derived.LaidMore
import Derived.Stop.Joined
import Derived.LaidLaws
import Derived.LaidHandle
import Derived.Stop.LaidErr
import Derived.Handed
import Derived.WalkKit
import Derived.ProofKit
import Derived.OpenShut
import Derived.ShutString
import Derived.ChangeOld
import Derived.Below
import Derived.SizedLaws
import Derived.Lib.LaidTab
import Derived.WideShapes
namespace Go.Proofs.YthmcapdakplhdaaDoor.tokenFilled
open Go Go.ChangeShapes Go.WideShapes Go.ChangeAt Go.RowKit Go.Proofs.YthmcapdakplhdaaDoor.Pr Go.Proofs.YthmcapdakplhdaaDoor.Opn Go.Proofs.YthmcapdakplhdaaDoorW.PrintWords Go.Proofs.YthmcapdakplhdaaDoorW.PrintLast Go.Proofs.YthmcapdakplhdaaDoorW.PrintMore
set_option linter.unusedVariables false
theorem LErr_of {W : World} (hL : laidMetH Tryd.prog Rows.tokenFilledRow.laid W) : LErr W := by
  have h : laidMet Tryd.prog Rows.tokenFilledRow.laid W := hL
  have h1 : laidMet Tryd.prog (("strconv.ErrRange", Rows.laid_strconv_ErrRange) :: [("strconv.ErrSyntax", Rows.laid_strconv_ErrSyntax)]) W := h.tail.tail.tail
  obtain ⟨_, ⟨g, t, cs, fuel, p, q, hg, ht, hv, hd, _, _⟩, _, _⟩ := h1
  obtain rfl := Option.some.inj ((show Tryd.prog.globalNamed "strconv.ErrRange" = some 2 by kernel_rfl).symm.trans hg)
  obtain rfl := Option.some.inj ((show (Tryd.prog.globals[2]?).map (·.type) = some 83 by kernel_rfl).symm.trans ht)
  obtain ⟨l⟩ := cs
  have hc := World.var?_cell hg hv 0
  obtain ⟨fuel', u, x, hcs, _, _⟩ := iface_of_trod Tryd.underlying83 hd
  have hcs' : l = [.iface u x] := hcs
  subst hcs'
  exact ⟨2, .iface u x, by kernel_rfl, by simpa using hc, .inr ⟨u, x, rfl⟩⟩
theorem own : ownKnob Tryd.prog.godebug = none := by kernel_rfl
theorem laidOut : laidOutB Tryd.prog = true := by kernel_rfl
set_option maxRecDepth 100000 in
set_option maxHeartbeats 4000000 in
theorem lifted (os : Os) (started : os.Started) (H : Type) (enc : TypeId × Value → H) :
    ReturnsInHanded {} Tryd.checked os 10 .any (fun w args => (Rows.tokenFilledSpec.pre enc Tryd.prog Tryd.f10 [] false w args ∧ laidMetH Tryd.prog Rows.tokenFilledRow.laid w) ∧ sizedMet enc Tryd.prog Tryd.f10 (OpenSpec.ofChange Rows.tokenFilledSpec) false w args) (Rows.tokenFilledSpec.post enc Tryd.prog Tryd.f10 false true false false) := by
  refine returnsInHanded_of_change_and (C := Tryd.checked) (X := fun w _ => laidMetH Tryd.prog Rows.tokenFilledRow.laid w) (fun _ _ _ hh h => h.of_heap hh) own started (by kernel_rfl) Tryd.func10
    (ChangeSpec.witness_shaped (enc := enc) (C := Tryd.checked) (os := os) (X := fun w _ => laidMetH Tryd.prog Rows.tokenFilledRow.laid w) false (World.laidAll Tryd.prog os Rows.tokenFilledRow.laid) #[.slice none 0 0, .slice none 0 0, .string ByteArray.empty] 8 (World.laidAll_os _ _ _)
      (World.shaped_of_ZipB (by kernel_rfl) (by kernel_rfl)) (by kernel_rfl) (by kernel_rfl) (by kernel_rfl)
      (by rw [MakeChecks.laidMetH_plain _ _ _ (by kernel_rfl)]; exact laidMet_laidAll _ (by kernel_rfl) (by kernel_rfl))) ?_
  intro W base args ds gs before hval0 hW hcnd hsz0 hL _
  have hsz : (DataW.weightsEach Tryd.prog (Tryd.f10.params.toList ++ Rows.tokenFilledSpec.plain.varTypes Tryd.prog) (ds ++ gs)).all (· ≤ reachBytes) = true := hsz0
  have hval : ∀ (j : Nat) t v, Tryd.f10.params[j]? = some t → args[j]? = some v → Value.okWide Tryd.prog W .any base t v := hval0
  have hW' := hW
  obtain ⟨p, q, hA0, hV, rfl, hfz, hnd⟩ := hW
  have hA : DataW.TrodAll enc Tryd.prog W 0 (fun _ => true) true Tryd.f10.params.toList args.toList ds p := hA0
  rw [Tryd.params10] at hA hval hsz
  obtain ⟨v0, vs0, d0, ds0, p0, q0, hargs, rfl, rfl, h0, r0⟩ := trodAll_cons hA
  obtain ⟨v1, vs1, d1, ds1, p1, q1, rfl, rfl, rfl, h1, r1⟩ := trodAll_cons r0
  obtain ⟨v2, vs2, d2, ds2, p2, q2, rfl, rfl, rfl, h2, r2⟩ := trodAll_cons r1
  obtain ⟨rfl, rfl, rfl⟩ := trodAll_nil r2
  obtain rfl : args = #[v0, v1, v2] := by cases args; simp_all
  obtain ⟨rfl, rfl⟩ := trodVars_none hV
  have k0 := h0
  have lt0 : ∀ x ∈ p0, x.block < W.heap.size := by obtain ⟨m, hm⟩ := k0; exact DataW.trod_lt m _ _ _ hm
  obtain ⟨m0, hm0⟩ := h0
  have hw0 : ∀ m ∈ d0.weights Tryd.prog 40, m ≤ reachBytes := fun m hm => by simpa using List.all_eq_true.1 hsz m (DataW.weights_mem_each (j := 0) (t := 40) (d := d0) rfl rfl m hm)
  obtain ⟨x0, hK0, hG0⟩ := (show OpensN Tryd.prog (m0 + 2) 40 (Kd.slice 44 k44) (fun x => LG 32 (fun x => G44 x) x) from by have n := m0; exact (opens_slice (e := 44) Tryd.underlying40 (by kernel_rfl) (B := 32) (by kernel_rfl) (op44 m0))) H enc W true m0 (Nat.le_add_right _ _) v0.cells.toList (d0, p0) hm0 hw0
  obtain ⟨A0_, len0, c0_, rfl⟩ := okWide_slice Tryd.underlying40 (hval 0 40 v0 rfl rfl)
  obtain ⟨A0, c0, hcs0, hc0, hr0⟩ := hK0
  obtain ⟨rfl, rfl, rfl⟩ : A0 = A0_ ∧ len0 = x0.length ∧ c0 = c0_ := by have h_ := hcs0; simp [Value.cells] at h_; exact ⟨h_.1.symm, h_.2.1, h_.2.2.symm⟩
  have k1 := h1
  have lt1 : ∀ x ∈ p1, x.block < W.heap.size := by obtain ⟨m, hm⟩ := k1; exact DataW.trod_lt m _ _ _ hm
  obtain ⟨m1, hm1⟩ := h1
  have hw1 : ∀ m ∈ d1.weights Tryd.prog 39, m ≤ reachBytes := fun m hm => by simpa using List.all_eq_true.1 hsz m (DataW.weights_mem_each (j := 1) (t := 39) (d := d1) rfl rfl m hm)
  obtain ⟨x1, hK1, hG1⟩ := (show OpensN Tryd.prog (m1 + 1) 39 (Kd.slice 5 (Kd.int .u8)) (fun x => LG 1 (fun x => (Lit.int .u8 x).wf = true) x) from by have n := m1; exact (opens_slice (e := 5) Tryd.underlying39 (by kernel_rfl) (B := 1) (by kernel_rfl) (opens_int Tryd.underlying5))) H enc W true m1 (Nat.le_add_right _ _) v1.cells.toList (d1, p1) hm1 hw1
  obtain ⟨A1_, len1, c1_, rfl⟩ := okWide_slice Tryd.underlying39 (hval 1 39 v1 rfl rfl)
  obtain ⟨A1, c1, hcs1, hc1, hr1⟩ := hK1
  obtain ⟨rfl, rfl, rfl⟩ : A1 = A1_ ∧ len1 = x1.length ∧ c1 = c1_ := by have h_ := hcs1; simp [Value.cells] at h_; exact ⟨h_.1.symm, h_.2.1, h_.2.2.symm⟩
  have k2 := h2
  have lt2 : ∀ x ∈ p2, x.block < W.heap.size := by obtain ⟨m, hm⟩ := k2; exact DataW.trod_lt m _ _ _ hm
  obtain ⟨m2, hm2⟩ := h2
  have hw2 : ∀ m ∈ d2.weights Tryd.prog 9, m ≤ reachBytes := fun m hm => by simpa using List.all_eq_true.1 hsz m (DataW.weights_mem_each (j := 2) (t := 9) (d := d2) rfl rfl m hm)
  obtain ⟨x2, hK2, hG2⟩ := (show OpensN Tryd.prog (m2 + 0) 9 Kd.string (fun x => x.size ≤ 140737488351232) from by have n := m2; exact (opens_string Tryd.underlying9)) H enc W true m2 (Nat.le_add_right _ _) v2.cells.toList (d2, p2) hm2 hw2
  obtain ⟨a2, rfl⟩ := okWide_string Tryd.underlying9 (hval 2 9 v2 rfl rfl)
  obtain rfl : a2 = x2 := by simpa [Value.cells, Kd.int, Kd.bool, Kd.string, Kd.scalar] using hK2
  clear hA0 hval0 hsz0 hsz
  obtain ⟨k, h⟩ := pureG x0 x1 a2 hG0 hG1 hG2
  refine (refrainlaw5_TokenFilled.calls k A0 c0 x0 A1 c1 x1 a2 true W hr0 hc0 hr1 hc1 ⟨LErr_of hL⟩ h).mono fun e W' hpost => ?_
  obtain ⟨he, bel0⟩ := hpost
  have bel : Below W.heap.size W W' := bel0
  subst he
  exact ⟨_, rfl, _, _, _, [], _, [], hW', trodAll_mk1 (shut_bool Tryd.underlying4 _), (trodAll_cons_mk (Below.trod laidOut (by kernel_rfl) (of_decide_eq_true (by kernel_rfl)) k0 bel lt0) (trodAll_cons_mk (Below.trod laidOut (by kernel_rfl) (of_decide_eq_true (by kernel_rfl)) k1 bel lt1) (trodAll_cons_mk (Below.trod laidOut (by kernel_rfl) (of_decide_eq_true (by kernel_rfl)) k2 bel lt2) trodAll_mk0))), rfl, bel.frame _, fun h => by cases h⟩
theorem over : Rows.tokenFilledRow.holds Tryd.pinned (OpenSpec.ofChange Rows.tokenFilledSpec) :=
  OpenClaim.holds_of_wide 10 Tryd.f10 rfl rfl rfl rfl rfl rfl rfl ⟨rfl, rfl, rfl, rfl, rfl⟩ rfl rfl rfl rfl rfl (by kernel_rfl) Tryd.func10 (by kernel_rfl)
    (of_decide_eq_true (by kernel_rfl)) (by unfold Func.isWrapper; first | (rw [if_pos (by decide +kernel)]; kernel_rfl) | (rw [if_neg (by decide +kernel)]; exact ⟨rfl, rfl⟩))
    (fun os started H enc _ => lifted os started H enc)
theorem proved : Rows.TokenFilledSaid := over
end Go.Proofs.YthmcapdakplhdaaDoor.tokenFilled
namespace Go.Proofs.YthmcapdakplhdaaDoor
open Go
/-- The tied card. -/
theorem tokenFilled_card_holds : Rows.TokenFilledCardSaid :=
  Claim7.holds_tied_plain_at .later [] [.data, .data, .data, .sentinel, .sentinel] true (true, "d5eee023370d8429767185795d476ec4da6aaed6f9fa1ad4cf5c24b56df21a7c") true
    tokenFilled.proved (fun _ h => by cases h) (by kernel_rfl) (fun _ h => by cases h) tokenFilled_row_tie rfl ⟨rfl, rfl⟩ (by kernel_rfl) rfl
    (fun f fn hf hfn => by
      obtain rfl : f = 10 := Option.some.inj ((show Tryd.prog.funcNamed "refrain/refrainlaw5.TokenFilled" = some 10 by kernel_rfl).symm.trans hf) |>.symm
      obtain rfl : fn = Tryd.f10 := (Option.some.inj (Tryd.func10.symm.trans hfn)).symm
      exact ⟨by kernel_rfl, fun j t ht => by
        rw [Tryd.params10] at ht
        have h3 : t = 40 ∨ t = 39 ∨ t = 9 := by
          have h4 := List.mem_of_getElem? (by simpa using ht)
          simpa using h4
        rcases h3 with rfl | rfl | rfl
        · exact (show Tryd.prog.wantsStandIn 40 = false by kernel_rfl)
        · exact (show Tryd.prog.wantsStandIn 39 = false by kernel_rfl)
        · exact (show Tryd.prog.wantsStandIn 9 = false by kernel_rfl)⟩)
    (by kernel_rfl)
end Go.Proofs.YthmcapdakplhdaaDoor

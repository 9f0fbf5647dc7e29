/-
The law TokenFresh: for every input of bulk at most 1048576 (the second form), the call returns true, and each argument reads as before. Conditions: the row's own (the listed package-level variables as the program's text lays them: tied by the card).
-/
import Derived.Test.YthmcapdakplhdaaDoorMTokenFreshUpto0
import Derived.Test.YthmcapdakplhdaaDoorMTokenFreshUpto1
import Derived.Test.YthmcapdakplhdaaDoorMTokenFreshUpto2
import Derived.Test.YthmcapdakplhdaaDoorMTokenFreshUpto3
import Derived.Test.YthmcapdakplhdaaDoorMTokenFreshUpto4
import Derived.Test.YthmcapdakplhdaaDoorMTokenFreshUpto5
import Derived.Test.YthmcapdakplhdaaDoorMTokenFreshUpto6
import Derived.Test.YthmcapdakplhdaaDoorRows
import Derived.Test.YthmcapdakplhdaaDoorTie
import Derived.Test.YthmcapdakplhdaaDoorCards
import Derived.SevenTiedAt
import Derived.Lay
import Derived.LaidMore
import Derived.Stop.Joined
import Derived.LaidLaws
import Derived.LaidHandle
import Derived.Stop.LaidErr
import Derived.Handed
import Derived.Deep.DeepHandedRow
import Derived.WalkKit
import Derived.ProofKit
import Derived.OpenShut
import Derived.ShutString
import Derived.ChangeOld
import Derived.Below
import Derived.SizedLaws
import Derived.Lib.LaidTab
import Derived.WideShapes
namespace Go.Proofs.YthmcapdakplhdaaDoor.tokenFresh
open Go Go.ChangeShapes Go.WideShapes Go.ChangeAt Go.RowKit Go.Proofs.YthmcapdakplhdaaDoor.Pr Go.Proofs.YthmcapdakplhdaaDoor.Opn Go.Proofs.YthmcapdakplhdaaDoorW.PrintWords Go.Proofs.YthmcapdakplhdaaDoorW.PrintLast Go.Proofs.YthmcapdakplhdaaDoorW.PrintMore
set_option linter.unusedVariables false
theorem LErr_of {W : World} (hL : laidMetH Tryd.prog Rows.tokenFreshUptoRow.laid W) : LErr W := by
  have h : laidMet Tryd.prog Rows.tokenFreshUptoRow.laid W := hL
  have h1 : laidMet Tryd.prog (("strconv.ErrRange", Rows.laid_strconv_ErrRange) :: [("strconv.ErrSyntax", Rows.laid_strconv_ErrSyntax), ("refrain/token.words", Rows.laid_refrain_token_words)]) W := h.tail.tail.tail
  obtain ⟨_, ⟨g, t, cs, fuel, p, q, hg, ht, hv, hd, _, _⟩, _, _⟩ := h1
  obtain rfl := Option.some.inj ((show Tryd.prog.globalNamed "strconv.ErrRange" = some 2 by kernel_rfl).symm.trans hg)
  obtain rfl := Option.some.inj ((show (Tryd.prog.globals[2]?).map (·.type) = some 83 by kernel_rfl).symm.trans ht)
  obtain ⟨l⟩ := cs
  have hc := World.var?_cell hg hv 0
  obtain ⟨fuel', u, x, hcs, _, _⟩ := iface_of_trod Tryd.underlying83 hd
  have hcs' : l = [.iface u x] := hcs
  subst hcs'
  exact ⟨2, .iface u x, by kernel_rfl, by simpa using hc, .inr ⟨u, x, rfl⟩⟩
theorem LG0_of {W : World} (hL : laidMetH Tryd.prog Rows.tokenFreshUptoRow.laid W) : LG0 W := by
  have h : laidMet Tryd.prog Rows.tokenFreshUptoRow.laid W := hL
  have h1 : laidMet Tryd.prog (("refrain/token.words", Rows.laid_refrain_token_words) :: []) W := h.tail.tail.tail.tail.tail
  exact strs_of_head (d := Rows.laid_refrain_token_words) (zs := G0c0) (g := 0) (t := 110) (e := 9) (n := 16) (by kernel_rfl) (by kernel_rfl) Tryd.underlying110 Tryd.underlying9 (by kernel_rfl) (by kernel_rfl) (by kernel_rfl) (by kernel_rfl) h1
theorem own : ownKnob Tryd.prog.godebug = none := by kernel_rfl
theorem laidOut : laidOutB Tryd.prog = true := by kernel_rfl
theorem reads (os : Os) {H : Type} (enc : TypeId × Value → H) : ∃ places, DataW.whole enc Tryd.prog ((World.laidAll Tryd.prog os Rows.tokenFreshUptoRow.laid).forCall (fun _ _ => 0) ⟨#[], #[.slice none 0 0], []⟩).memory Tryd.f12.params.toList Rows.tokenFreshSpec.vars false #[Value.slice none 0 0].toList 8 = some ([.nil], [], places) :=
  ⟨[], by kernel_rfl⟩
theorem okW (os : Os) : Input.okWideB Tryd.prog ((World.laidAll Tryd.prog os Rows.tokenFreshUptoRow.laid).forCall (fun _ _ => 0) ⟨#[], #[.slice none 0 0], []⟩) 12 ⟨#[], #[.slice none 0 0], []⟩ = true := by kernel_rfl
set_option maxRecDepth 100000 in
set_option maxHeartbeats 4000000 in
theorem lifted (os : Os) (started : os.Started) (H : Type) (enc : TypeId × Value → H) (F : Stop.Interp) :
    ReturnsInHanded {} Tryd.checked os 12 .any ((Rows.OpenSpec.upto Rows.tokenFreshSpec).preRow enc Tryd.prog Tryd.f12 Rows.tokenFreshUptoRow.domain false Rows.tokenFreshUptoRow.laid) (((Rows.OpenSpec.upto Rows.tokenFreshSpec).at F).post enc Tryd.prog Tryd.f12 false true false false) := by
  obtain ⟨places, hx⟩ := reads os enc
  refine returnsInHanded_of_row (C := Tryd.checked) (s := Rows.OpenSpec.upto Rows.tokenFreshSpec) own started (by kernel_rfl) Tryd.func12
    ⟨World.laidAll Tryd.prog os Rows.tokenFreshUptoRow.laid, fun _ _ => 0, ⟨#[], #[.slice none 0 0], []⟩, World.laidAll_os _ _ _, World.shaped_of_ZipB (by kernel_rfl) (by kernel_rfl), (Input.okWide_of_okWideB (base := 0) (okW os)).1, (Input.okWide_of_okWideB (okW os)).2,
      OpenSpec.preRow_of_cond 8 hx (by kernel_rfl) (fun k hk => by cases hk; kernel_rfl) (by kernel_rfl) (by rw [MakeChecks.laidMetH_plain _ _ _ (by kernel_rfl)]; exact laidMet_laidAll _ (by kernel_rfl) (by kernel_rfl)), by
      simp only [Assume.holds]
      exact ⟨by simp, by simp, fun _ => Modest.zero, by simp, by simp⟩⟩ ?_
  intro W base args ds gs before hval0 hW hcnd hcond hsz0 hL hSH _
  have hbulk0 : Rows.uptoBulkAll (ds ++ gs) ≤ 1048576 := of_decide_eq_true (hcond _ rfl)
  have hsz : (DataW.weightsEach Tryd.prog (Tryd.f12.params.toList ++ Rows.tokenFreshSpec.plain.varTypes Tryd.prog) (ds ++ gs)).all (· ≤ reachBytes) = true := hsz0
  have hval : ∀ (j : Nat) t v, Tryd.f12.params[j]? = some t → args[j]? = some v → Value.okWide Tryd.prog W .any base t v := hval0
  have hW' := hW
  obtain ⟨p, q, hA0, hV, rfl, hfz, hnd⟩ := hW
  have hA : DataW.TrodAll enc Tryd.prog W 0 (fun _ => true) true Tryd.f12.params.toList args.toList ds p := hA0
  rw [Tryd.params12] at hA hval hsz
  obtain ⟨v0, vs0, d0, ds0, p0, q0, hargs, rfl, rfl, h0, r0⟩ := trodAll_cons hA
  obtain ⟨rfl, rfl, rfl⟩ := trodAll_nil r0
  obtain rfl : args = #[v0] := by cases args; simp_all
  obtain ⟨rfl, rfl⟩ := trodVars_none hV
  have k0 := h0
  have lt0 : ∀ x ∈ p0, x.block < W.heap.size := by obtain ⟨m, hm⟩ := k0; exact DataW.trod_lt m _ _ _ hm
  obtain ⟨m0, hm0⟩ := h0
  have hw0 : ∀ m ∈ d0.weights Tryd.prog 22, m ≤ reachBytes := fun m hm => by simpa using List.all_eq_true.1 hsz m (DataW.weights_mem_each (j := 0) (t := 22) (d := d0) rfl rfl m hm)
  obtain ⟨x0, hK0, hG0, hM0⟩ := (show OpensB Tryd.prog (m0 + 1) 22 (Kd.slice 9 Kd.string) (fun x => LG 16 (fun x => x.size ≤ 140737488351232) x) bulkM from by have n := m0; exact (opensB_slice (e := 9) Tryd.underlying22 (by kernel_rfl) (B := 16) (by kernel_rfl) (opensB_string Tryd.underlying9))) H enc W true m0 (Nat.le_add_right _ _) v0.cells.toList (d0, p0) hm0 hw0
  obtain ⟨A0_, len0, c0_, rfl⟩ := okWide_slice Tryd.underlying22 (hval 0 22 v0 rfl rfl)
  obtain ⟨A0, c0, hcs0, hc0, hr0⟩ := hK0
  obtain ⟨rfl, rfl, rfl⟩ : A0 = A0_ ∧ len0 = x0.length ∧ c0 = c0_ := by have h_ := hcs0; simp [Value.cells] at h_; exact ⟨h_.1.symm, h_.2.1, h_.2.2.symm⟩
  clear hA0 hval0 hsz0 hsz
  have hbulk : bulkM x0 ≤ 1048576 := by
    have hM1 : bulkM x0 ≤ Rows.uptoBulk d0 := hM0
    simp only [List.append_nil, Rows.uptoBulkAll] at hbulk0
    omega
  obtain ⟨k, h⟩ := pureG x0 hG0 hbulk
  refine (refrainlaw5_TokenFresh.calls k A0 c0 x0 true W hr0 hc0 ⟨LErr_of hL⟩ ⟨LG0_of hL⟩ h).mono fun e W' hpost => ?_
  obtain ⟨he, bel0⟩ := hpost
  have bel : Below W.heap.size W W' := bel0
  subst he
  exact ⟨_, rfl, _, _, _, [], _, [], hW', trodAll_mk1 (shut_bool Tryd.underlying4 _), (trodAll_cons_mk (Below.trod laidOut (by kernel_rfl) (of_decide_eq_true (by kernel_rfl)) k0 bel lt0) trodAll_mk0), rfl, bel.frame _, fun h => by cases h⟩
theorem proved : Rows.TokenFreshUptoSaid :=
  OpenClaim.holds_of_cond 12 Tryd.f12 rfl rfl rfl rfl rfl rfl rfl ⟨rfl, rfl, rfl, rfl, rfl⟩ rfl rfl rfl rfl rfl (by kernel_rfl) Tryd.func12 (by kernel_rfl)
    (of_decide_eq_true (by kernel_rfl)) (by unfold Func.isWrapper; first | (rw [if_pos (by decide +kernel)]; kernel_rfl) | (rw [if_neg (by decide +kernel)]; exact ⟨rfl, rfl⟩))
    (fun os started H enc _ F => by rw [OpenClaim.pre_eq_preRow]; exact lifted os started H enc F)
end Go.Proofs.YthmcapdakplhdaaDoor.tokenFresh
namespace Go.Proofs.YthmcapdakplhdaaDoor
open Go
/-- The tied card. -/
theorem tokenFreshUpto_card_holds : Rows.TokenFreshUptoCardSaid :=
  Claim7.holds_tied_plain_at .later [] _ _ _ _
    tokenFresh.proved (fun _ h => by cases h) (by kernel_rfl) (fun _ h => by cases h) tokenFreshUpto_row_tie rfl ⟨rfl, rfl⟩ (by kernel_rfl) rfl
    (fun f fn hf hfn => by
      obtain rfl : f = 12 := Option.some.inj ((show Tryd.prog.funcNamed "refrain/refrainlaw5.TokenFresh" = some 12 by kernel_rfl).symm.trans hf) |>.symm
      obtain rfl : fn = Tryd.f12 := (Option.some.inj (Tryd.func12.symm.trans hfn)).symm
      exact ⟨by kernel_rfl, fun j t ht => by
        rw [Tryd.params12] at ht
        have h3 : t = 22 := by
          have h4 := List.mem_of_getElem? (by simpa using ht)
          simpa using h4
        rcases h3 with rfl
        · exact (show Tryd.prog.wantsStandIn 22 = false by kernel_rfl)⟩)
    (by kernel_rfl)
end Go.Proofs.YthmcapdakplhdaaDoor

/-
The law ValueScript: for every input that the row speaks of, the call returns true, and each argument reads as before. Conditions: the row's own (the listed package-level variables as the program's text lays them: tied by the card).
-/
import Derived.Test.YthhpeeckiggpaaaGreatDoorRows
import Derived.Test.YthhpeeckiggpaaaGreatDoorOpnValueScript
import Derived.Test.YthhpeeckiggpaaaGreatDoorPureValueScript
import Derived.Test.YthhpeeckiggpaaaGreatDoorTie
import Derived.Test.YthhpeeckiggpaaaGreatDoorCards
import Derived.SevenTiedAt
import Derived.Lay
import Derived.LaidMore
import Derived.Stop.Joined
import Derived.LaidLaws
import Derived.LaidHandle
import Derived.Stop.LaidErr
import Derived.Handed
import Derived.WalkKit
import Derived.ProofKit
import Derived.OpenShut
import Derived.ShutString
import Derived.ChangeOld
import Derived.Below
import Derived.SizedLaws
import Derived.Lib.LaidTab
import Derived.WideShapes
namespace Go.Proofs.YthhpeeckiggpaaaGreatDoor.valueScript
open Go Go.ChangeShapes Go.WideShapes Go.ChangeAt Go.RowKit Go.Proofs.YthhpeeckiggpaaaGreatDoor.Pr Go.Proofs.YthhpeeckiggpaaaGreatDoor.Opn Go.Proofs.YthhpeeckiggpaaaGreatDoorW.PrintWords Go.Proofs.YthhpeeckiggpaaaGreatDoorW.PrintLast Go.Proofs.YthhpeeckiggpaaaGreatDoorW.PrintMore
set_option linter.unusedVariables false
theorem LErr_of {W : World} (hL : laidMetH Tryz.prog Rows.valueScriptRow.laid W) : LErr W := by
  have h : laidMet Tryz.prog Rows.valueScriptRow.laid W := hL
  have h1 : laidMet Tryz.prog (("strconv.ErrRange", Rows.laid_strconv_ErrRange) :: [("strconv.ErrSyntax", Rows.laid_strconv_ErrSyntax), ("refrain/value.wants", Rows.laid_refrain_value_wants), ("unicode.CaseRanges", Rows.laid_unicode_CaseRanges), ("unicode/utf8.first", Rows.laid_unicode_utf8_first)]) W := h.tail.tail.tail.tail
  obtain ⟨_, ⟨g, t, cs, fuel, p, q, hg, ht, hv, hd, _, _⟩, _, _⟩ := h1
  obtain rfl := Option.some.inj ((show Tryz.prog.globalNamed "strconv.ErrRange" = some 7 by kernel_rfl).symm.trans hg)
  obtain rfl := Option.some.inj ((show (Tryz.prog.globals[7]?).map (·.type) = some 64 by kernel_rfl).symm.trans ht)
  obtain ⟨l⟩ := cs
  have hc := World.var?_cell hg hv 0
  obtain ⟨fuel', u, x, hcs, _, _⟩ := iface_of_trod Tryz.underlying64 hd
  have hcs' : l = [.iface u x] := hcs
  subst hcs'
  exact ⟨7, .iface u x, by kernel_rfl, by simpa using hc, .inr ⟨u, x, rfl⟩⟩
theorem LG0_of {W : World} (hL : laidMetH Tryz.prog Rows.valueScriptRow.laid W) : LG0 W := by
  have h : laidMet Tryz.prog Rows.valueScriptRow.laid W := hL
  have h1 : laidMet Tryz.prog (("refrain/value.wants", Rows.laid_refrain_value_wants) :: [("unicode.CaseRanges", Rows.laid_unicode_CaseRanges), ("unicode/utf8.first", Rows.laid_unicode_utf8_first)]) W := h.tail.tail.tail.tail.tail.tail
  exact Lib.tabIs_of_head (k := .i64) (zs := [0, 1, 2, 1, 1, 1, 3, 3, 4, 4, 4, 4, 2, 2]) (g := 0) (t := 77) (e := 3) (n := 14) (by kernel_rfl) (by kernel_rfl) Tryz.underlying77 Tryz.underlying3 (by kernel_rfl) (by kernel_rfl) h1
theorem LG1_of {W : World} (hL : laidMetH Tryz.prog Rows.valueScriptRow.laid W) : LG1 W := by
  have h : laidMet Tryz.prog Rows.valueScriptRow.laid W := hL
  have h1 : laidMet Tryz.prog (("internal/strconv.uint64pow10", Rows.laid_internal_strconv_uint64pow10) :: [("unicode/utf8.acceptRanges", Rows.laid_unicode_utf8_acceptRanges), ("strconv.ErrRange", Rows.laid_strconv_ErrRange), ("strconv.ErrSyntax", Rows.laid_strconv_ErrSyntax), ("refrain/value.wants", Rows.laid_refrain_value_wants), ("unicode.CaseRanges", Rows.laid_unicode_CaseRanges), ("unicode/utf8.first", Rows.laid_unicode_utf8_first)]) W := h.tail.tail
  exact Lib.tabIs_of_head (k := .u64) (zs := [1, 10, 100, 1000, 10000, 100000, 1000000, 10000000, 100000000, 1000000000, 10000000000, 100000000000, 1000000000000, 10000000000000, 100000000000000, 1000000000000000, 10000000000000000, 100000000000000000, 1000000000000000000, 10000000000000000000]) (g := 1) (t := 105) (e := 51) (n := 20) (by kernel_rfl) (by kernel_rfl) Tryz.underlying105 Tryz.underlying51 (by kernel_rfl) (by kernel_rfl) h1
theorem LSyn_of {W : World} (hL : laidMetH Tryz.prog Rows.valueScriptRow.laid W) : LSyn W := by
  have h : laidMet Tryz.prog Rows.valueScriptRow.laid W := hL
  have h1 : laidMet Tryz.prog (("strconv.ErrSyntax", Rows.laid_strconv_ErrSyntax) :: [("refrain/value.wants", Rows.laid_refrain_value_wants), ("unicode.CaseRanges", Rows.laid_unicode_CaseRanges), ("unicode/utf8.first", Rows.laid_unicode_utf8_first)]) W := h.tail.tail.tail.tail.tail
  obtain ⟨_, ⟨g, t, cs, fuel, p, q, hg, ht, hv, hd, _, _⟩, _, _⟩ := h1
  obtain rfl := Option.some.inj ((show Tryz.prog.globalNamed "strconv.ErrSyntax" = some 6 by kernel_rfl).symm.trans hg)
  obtain rfl := Option.some.inj ((show (Tryz.prog.globals[6]?).map (·.type) = some 64 by kernel_rfl).symm.trans ht)
  obtain ⟨l⟩ := cs
  have hc := World.var?_cell hg hv 0
  obtain ⟨fuel', u, x, hcs, _, _⟩ := iface_of_trod Tryz.underlying64 hd
  have hcs' : l = [.iface u x] := hcs
  subst hcs'
  exact ⟨6, .iface u x, by kernel_rfl, by simpa using hc, .inr ⟨u, x, rfl⟩⟩
theorem own : ownKnob Tryz.prog.godebug = none := by kernel_rfl
theorem laidOut : laidOutB Tryz.prog = true := by kernel_rfl
set_option maxRecDepth 100000 in
set_option maxHeartbeats 4000000 in
theorem lifted (os : Os) (started : os.Started) (H : Type) (enc : TypeId × Value → H) :
    ReturnsInHanded {} Tryz.checked os 3 .any (fun w args => (Rows.valueScriptSpec.pre enc Tryz.prog Tryz.f3 [] false w args ∧ laidMetH Tryz.prog Rows.valueScriptRow.laid w) ∧ sizedMet enc Tryz.prog Tryz.f3 (OpenSpec.ofChange Rows.valueScriptSpec) false w args) (Rows.valueScriptSpec.post enc Tryz.prog Tryz.f3 false true false false) := by
  refine returnsInHanded_of_change_and (C := Tryz.checked) (X := fun w _ => laidMetH Tryz.prog Rows.valueScriptRow.laid w) (fun _ _ _ hh h => h.of_heap hh) own started (by kernel_rfl) Tryz.func3
    (ChangeSpec.witness_shaped (enc := enc) (C := Tryz.checked) (os := os) (X := fun w _ => laidMetH Tryz.prog Rows.valueScriptRow.laid w) false (World.laidAll Tryz.prog os Rows.valueScriptRow.laid) #[.slice none 0 0] 8 (World.laidAll_os _ _ _)
      (World.shaped_of_ZipB (by kernel_rfl) (by kernel_rfl)) (by kernel_rfl) (by kernel_rfl) (by kernel_rfl)
      (by rw [MakeChecks.laidMetH_plain _ _ _ (by kernel_rfl)]; exact laidMet_laidAll _ (by kernel_rfl) (by kernel_rfl))) ?_
  intro W base args ds gs before hval0 hW hcnd hsz0 hL _
  have hsz : (DataW.weightsEach Tryz.prog (Tryz.f3.params.toList ++ Rows.valueScriptSpec.plain.varTypes Tryz.prog) (ds ++ gs)).all (· ≤ reachBytes) = true := hsz0
  have hval : ∀ (j : Nat) t v, Tryz.f3.params[j]? = some t → args[j]? = some v → Value.okWide Tryz.prog W .any base t v := hval0
  have hW' := hW
  obtain ⟨p, q, hA0, hV, rfl, hfz, hnd⟩ := hW
  have hA : DataW.TrodAll enc Tryz.prog W 0 (fun _ => true) true Tryz.f3.params.toList args.toList ds p := hA0
  rw [Tryz.params3] at hA hval hsz
  obtain ⟨v0, vs0, d0, ds0, p0, q0, hargs, rfl, rfl, h0, r0⟩ := trodAll_cons hA
  obtain ⟨rfl, rfl, rfl⟩ := trodAll_nil r0
  obtain rfl : args = #[v0] := by cases args; simp_all
  obtain ⟨rfl, rfl⟩ := trodVars_none hV
  have k0 := h0
  have lt0 : ∀ x ∈ p0, x.block < W.heap.size := by obtain ⟨m, hm⟩ := k0; exact DataW.trod_lt m _ _ _ hm
  obtain ⟨m0, hm0⟩ := h0
  have hw0 : ∀ m ∈ d0.weights Tryz.prog 22, m ≤ reachBytes := fun m hm => by simpa using List.all_eq_true.1 hsz m (DataW.weights_mem_each (j := 0) (t := 22) (d := d0) rfl rfl m hm)
  obtain ⟨x0, hK0, hG0⟩ := (show OpensN Tryz.prog (m0 + 3) 22 (Kd.slice 29 k29) (fun x => LG 112 (fun x => G29 x) x) from by have n := m0; exact (opens_slice (e := 29) Tryz.underlying22 (by kernel_rfl) (B := 112) (by kernel_rfl) (op29 m0))) H enc W true m0 (Nat.le_add_right _ _) v0.cells.toList (d0, p0) hm0 hw0
  obtain ⟨A0_, len0, c0_, rfl⟩ := okWide_slice Tryz.underlying22 (hval 0 22 v0 rfl rfl)
  obtain ⟨A0, c0, hcs0, hc0, hr0⟩ := hK0
  obtain ⟨rfl, rfl, rfl⟩ : A0 = A0_ ∧ len0 = x0.length ∧ c0 = c0_ := by have h_ := hcs0; simp [Value.cells] at h_; exact ⟨h_.1.symm, h_.2.1, h_.2.2.symm⟩
  clear hA0 hval0 hsz0 hsz
  obtain ⟨k, h⟩ := pureG x0 hG0
  refine (refrainlaw1_ValueScript.calls k A0 c0 x0 true W hr0 hc0 ⟨LErr_of hL⟩ ⟨LG0_of hL⟩ ⟨LG1_of hL⟩ ⟨LSyn_of hL⟩ h rfl).mono fun e W' hpost => ?_
  obtain ⟨he, bel0⟩ := hpost
  have bel : Below W.heap.size W W' := bel0
  subst he
  exact ⟨_, rfl, _, _, _, [], _, [], hW', trodAll_mk1 (shut_bool Tryz.underlying4 _), (trodAll_cons_mk (Below.trod laidOut (by kernel_rfl) (of_decide_eq_true (by kernel_rfl)) k0 bel lt0) trodAll_mk0), rfl, bel.frame _, fun h => by cases h⟩
theorem over : Rows.valueScriptRow.holds Tryz.pinned (OpenSpec.ofChange Rows.valueScriptSpec) :=
  OpenClaim.holds_of_wide 3 Tryz.f3 rfl rfl rfl rfl rfl rfl rfl ⟨rfl, rfl, rfl, rfl, rfl⟩ rfl rfl rfl rfl rfl (by kernel_rfl) Tryz.func3 (by kernel_rfl)
    (of_decide_eq_true (by kernel_rfl)) (by unfold Func.isWrapper; first | (rw [if_pos (by decide +kernel)]; kernel_rfl) | (rw [if_neg (by decide +kernel)]; exact ⟨rfl, rfl⟩))
    (fun os started H enc _ => lifted os started H enc)
theorem proved : Rows.ValueScriptSaid := over
end Go.Proofs.YthhpeeckiggpaaaGreatDoor.valueScript
namespace Go.Proofs.YthhpeeckiggpaaaGreatDoor
open Go
/-- The tied card. -/
theorem valueScript_card_holds : Rows.ValueScriptCardSaid :=
  Claim7.holds_tied_plain_at .later [] [.data, .data, .data, .data, .sentinel, .sentinel, .data, .pinned, .pinned] true (true, "c9f9c8729dc95c2eed107653d1950eac9f81f5f2818eeb759464753ac61e8e19") true
    valueScript.proved (fun _ h => by cases h) (by kernel_rfl) (fun _ h => by cases h) valueScript_row_tie rfl ⟨rfl, rfl⟩ (by kernel_rfl) rfl
    (fun f fn hf hfn => by
      obtain rfl : f = 3 := Option.some.inj ((show Tryz.prog.funcNamed "refrain/refrainlaw1.ValueScript" = some 3 by kernel_rfl).symm.trans hf) |>.symm
      obtain rfl : fn = Tryz.f3 := (Option.some.inj (Tryz.func3.symm.trans hfn)).symm
      exact ⟨by kernel_rfl, fun j t ht => by
        rw [Tryz.params3] at ht
        have h3 : t = 22 := by
          have h4 := List.mem_of_getElem? (by simpa using ht)
          simpa using h4
        rcases h3 with rfl
        · exact (show Tryz.prog.wantsStandIn 22 = false by kernel_rfl)⟩)
    (by kernel_rfl)
end Go.Proofs.YthhpeeckiggpaaaGreatDoor

/-
The law ValueOps: for every input that the row speaks of, the call returns true, and each argument reads as before. Conditions: the row's own (the listed package-level variables as the program's text lays them: tied by the card).
-/
import Derived.Test.YthhpeeckiggpaaaDoorRows
import Derived.Test.YthhpeeckiggpaaaDoorOpnValueOps
import Derived.Test.YthhpeeckiggpaaaDoorPureValueOps
import Derived.Test.YthhpeeckiggpaaaDoorTie
import Derived.Test.YthhpeeckiggpaaaDoorCards
import Derived.SevenTiedAt
import Derived.Lay
import Derived.LaidMore
import Derived.Stop.Joined
import Derived.LaidLaws
import Derived.LaidHandle
import Derived.Stop.LaidErr
import Derived.Handed
import Derived.WalkKit
import Derived.ProofKit
import Derived.OpenShut
import Derived.ShutString
import Derived.ChangeOld
import Derived.Below
import Derived.SizedLaws
import Derived.Lib.LaidTab
import Derived.WideShapes
namespace Go.Proofs.YthhpeeckiggpaaaDoor.valueOps
open Go Go.ChangeShapes Go.WideShapes Go.ChangeAt Go.RowKit Go.Proofs.YthhpeeckiggpaaaDoor.Pr Go.Proofs.YthhpeeckiggpaaaDoor.Opn Go.Proofs.YthhpeeckiggpaaaDoorW.PrintWords Go.Proofs.YthhpeeckiggpaaaDoorW.PrintLast Go.Proofs.YthhpeeckiggpaaaDoorW.PrintMore
set_option linter.unusedVariables false
theorem LErr_of {W : World} (hL : laidMetH Tryd.prog Rows.valueOpsRow.laid W) : LErr W := by
  have h : laidMet Tryd.prog Rows.valueOpsRow.laid W := hL
  have h1 : laidMet Tryd.prog (("strconv.ErrRange", Rows.laid_strconv_ErrRange) :: [("strconv.ErrSyntax", Rows.laid_strconv_ErrSyntax), ("refrain/value.wants", Rows.laid_refrain_value_wants), ("unicode.CaseRanges", Rows.laid_unicode_CaseRanges), ("unicode/utf8.first", Rows.laid_unicode_utf8_first)]) W := h.tail.tail.tail.tail
  obtain ⟨_, ⟨g, t, cs, fuel, p, q, hg, ht, hv, hd, _, _⟩, _, _⟩ := h1
  obtain rfl := Option.some.inj ((show Tryd.prog.globalNamed "strconv.ErrRange" = some 7 by kernel_rfl).symm.trans hg)
  obtain rfl := Option.some.inj ((show (Tryd.prog.globals[7]?).map (·.type) = some 74 by kernel_rfl).symm.trans ht)
  obtain ⟨l⟩ := cs
  have hc := World.var?_cell hg hv 0
  obtain ⟨fuel', u, x, hcs, _, _⟩ := iface_of_trod Tryd.underlying74 hd
  have hcs' : l = [.iface u x] := hcs
  subst hcs'
  exact ⟨7, .iface u x, by kernel_rfl, by simpa using hc, .inr ⟨u, x, rfl⟩⟩
theorem LG0_of {W : World} (hL : laidMetH Tryd.prog Rows.valueOpsRow.laid W) : LG0 W := by
  have h : laidMet Tryd.prog Rows.valueOpsRow.laid W := hL
  have h1 : laidMet Tryd.prog (("refrain/value.wants", Rows.laid_refrain_value_wants) :: [("unicode.CaseRanges", Rows.laid_unicode_CaseRanges), ("unicode/utf8.first", Rows.laid_unicode_utf8_first)]) W := h.tail.tail.tail.tail.tail.tail
  exact Lib.tabIs_of_head (k := .i64) (zs := [0, 1, 2, 1, 1, 1, 3, 3, 4, 4, 4, 4, 2, 2]) (g := 0) (t := 96) (e := 3) (n := 14) (by kernel_rfl) (by kernel_rfl) Tryd.underlying96 Tryd.underlying3 (by kernel_rfl) (by kernel_rfl) h1
theorem LG1_of {W : World} (hL : laidMetH Tryd.prog Rows.valueOpsRow.laid W) : LG1 W := by
  have h : laidMet Tryd.prog Rows.valueOpsRow.laid W := hL
  have h1 : laidMet Tryd.prog (("internal/strconv.uint64pow10", Rows.laid_internal_strconv_uint64pow10) :: [("unicode/utf8.acceptRanges", Rows.laid_unicode_utf8_acceptRanges), ("strconv.ErrRange", Rows.laid_strconv_ErrRange), ("strconv.ErrSyntax", Rows.laid_strconv_ErrSyntax), ("refrain/value.wants", Rows.laid_refrain_value_wants), ("unicode.CaseRanges", Rows.laid_unicode_CaseRanges), ("unicode/utf8.first", Rows.laid_unicode_utf8_first)]) W := h.tail.tail
  exact Lib.tabIs_of_head (k := .u64) (zs := [1, 10, 100, 1000, 10000, 100000, 1000000, 10000000, 100000000, 1000000000, 10000000000, 100000000000, 1000000000000, 10000000000000, 100000000000000, 1000000000000000, 10000000000000000, 100000000000000000, 1000000000000000000, 10000000000000000000]) (g := 1) (t := 114) (e := 57) (n := 20) (by kernel_rfl) (by kernel_rfl) Tryd.underlying114 Tryd.underlying57 (by kernel_rfl) (by kernel_rfl) h1
theorem LSyn_of {W : World} (hL : laidMetH Tryd.prog Rows.valueOpsRow.laid W) : LSyn W := by
  have h : laidMet Tryd.prog Rows.valueOpsRow.laid W := hL
  have h1 : laidMet Tryd.prog (("strconv.ErrSyntax", Rows.laid_strconv_ErrSyntax) :: [("refrain/value.wants", Rows.laid_refrain_value_wants), ("unicode.CaseRanges", Rows.laid_unicode_CaseRanges), ("unicode/utf8.first", Rows.laid_unicode_utf8_first)]) W := h.tail.tail.tail.tail.tail
  obtain ⟨_, ⟨g, t, cs, fuel, p, q, hg, ht, hv, hd, _, _⟩, _, _⟩ := h1
  obtain rfl := Option.some.inj ((show Tryd.prog.globalNamed "strconv.ErrSyntax" = some 6 by kernel_rfl).symm.trans hg)
  obtain rfl := Option.some.inj ((show (Tryd.prog.globals[6]?).map (·.type) = some 74 by kernel_rfl).symm.trans ht)
  obtain ⟨l⟩ := cs
  have hc := World.var?_cell hg hv 0
  obtain ⟨fuel', u, x, hcs, _, _⟩ := iface_of_trod Tryd.underlying74 hd
  have hcs' : l = [.iface u x] := hcs
  subst hcs'
  exact ⟨6, .iface u x, by kernel_rfl, by simpa using hc, .inr ⟨u, x, rfl⟩⟩
theorem own : ownKnob Tryd.prog.godebug = none := by kernel_rfl
theorem laidOut : laidOutB Tryd.prog = true := by kernel_rfl
set_option maxRecDepth 100000 in
set_option maxHeartbeats 4000000 in
theorem lifted (os : Os) (started : os.Started) (H : Type) (enc : TypeId × Value → H) :
    ReturnsInHanded {} Tryd.checked os 7 .any (fun w args => (Rows.valueOpsSpec.pre enc Tryd.prog Tryd.f7 [] false w args ∧ laidMetH Tryd.prog Rows.valueOpsRow.laid w) ∧ sizedMet enc Tryd.prog Tryd.f7 (OpenSpec.ofChange Rows.valueOpsSpec) false w args) (Rows.valueOpsSpec.post enc Tryd.prog Tryd.f7 false true false false) := by
  refine returnsInHanded_of_change_and (C := Tryd.checked) (X := fun w _ => laidMetH Tryd.prog Rows.valueOpsRow.laid w) (fun _ _ _ hh h => h.of_heap hh) own started (by kernel_rfl) Tryd.func7
    (ChangeSpec.witness_shaped (enc := enc) (C := Tryd.checked) (os := os) (X := fun w _ => laidMetH Tryd.prog Rows.valueOpsRow.laid w) false (World.laidAll Tryd.prog os Rows.valueOpsRow.laid) #[.slice none 0 0, .slice none 0 0] 8 (World.laidAll_os _ _ _)
      (World.shaped_of_ZipB (by kernel_rfl) (by kernel_rfl)) (by kernel_rfl) (by kernel_rfl) (by kernel_rfl)
      (by rw [MakeChecks.laidMetH_plain _ _ _ (by kernel_rfl)]; exact laidMet_laidAll _ (by kernel_rfl) (by kernel_rfl))) ?_
  intro W base args ds gs before hval0 hW hcnd hsz0 hL _
  have hsz : (DataW.weightsEach Tryd.prog (Tryd.f7.params.toList ++ Rows.valueOpsSpec.plain.varTypes Tryd.prog) (ds ++ gs)).all (· ≤ reachBytes) = true := hsz0
  have hval : ∀ (j : Nat) t v, Tryd.f7.params[j]? = some t → args[j]? = some v → Value.okWide Tryd.prog W .any base t v := hval0
  have hW' := hW
  obtain ⟨p, q, hA0, hV, rfl, hfz, hnd⟩ := hW
  have hA : DataW.TrodAll enc Tryd.prog W 0 (fun _ => true) true Tryd.f7.params.toList args.toList ds p := hA0
  rw [Tryd.params7] at hA hval hsz
  obtain ⟨v0, vs0, d0, ds0, p0, q0, hargs, rfl, rfl, h0, r0⟩ := trodAll_cons hA
  obtain ⟨v1, vs1, d1, ds1, p1, q1, rfl, rfl, rfl, h1, r1⟩ := trodAll_cons r0
  obtain ⟨rfl, rfl, rfl⟩ := trodAll_nil r1
  obtain rfl : args = #[v0, v1] := by cases args; simp_all
  obtain ⟨rfl, rfl⟩ := trodVars_none hV
  have k0 := h0
  have lt0 : ∀ x ∈ p0, x.block < W.heap.size := by obtain ⟨m, hm⟩ := k0; exact DataW.trod_lt m _ _ _ hm
  obtain ⟨m0, hm0⟩ := h0
  have hw0 : ∀ m ∈ d0.weights Tryd.prog 39, m ≤ reachBytes := fun m hm => by simpa using List.all_eq_true.1 hsz m (DataW.weights_mem_each (j := 0) (t := 39) (d := d0) rfl rfl m hm)
  obtain ⟨x0, hK0, hG0⟩ := (show OpensN Tryd.prog (m0 + 1) 39 (Kd.slice 3 (Kd.int .i64)) (fun x => LG 8 (fun x => (Lit.int .i64 x).wf = true) x) from by have n := m0; exact (opens_slice (e := 3) Tryd.underlying39 (by kernel_rfl) (B := 8) (by kernel_rfl) (opens_int Tryd.underlying3))) H enc W true m0 (Nat.le_add_right _ _) v0.cells.toList (d0, p0) hm0 hw0
  obtain ⟨A0_, len0, c0_, rfl⟩ := okWide_slice Tryd.underlying39 (hval 0 39 v0 rfl rfl)
  obtain ⟨A0, c0, hcs0, hc0, hr0⟩ := hK0
  obtain ⟨rfl, rfl, rfl⟩ : A0 = A0_ ∧ len0 = x0.length ∧ c0 = c0_ := by have h_ := hcs0; simp [Value.cells] at h_; exact ⟨h_.1.symm, h_.2.1, h_.2.2.symm⟩
  have k1 := h1
  have lt1 : ∀ x ∈ p1, x.block < W.heap.size := by obtain ⟨m, hm⟩ := k1; exact DataW.trod_lt m _ _ _ hm
  obtain ⟨m1, hm1⟩ := h1
  have hw1 : ∀ m ∈ d1.weights Tryd.prog 22, m ≤ reachBytes := fun m hm => by simpa using List.all_eq_true.1 hsz m (DataW.weights_mem_each (j := 1) (t := 22) (d := d1) rfl rfl m hm)
  obtain ⟨x1, hK1, hG1⟩ := (show OpensN Tryd.prog (m1 + 2) 22 (Kd.slice 26 k26) (fun x => LG 40 (fun x => G26 x) x) from by have n := m1; exact (opens_slice (e := 26) Tryd.underlying22 (by kernel_rfl) (B := 40) (by kernel_rfl) (op26 m1))) H enc W true m1 (Nat.le_add_right _ _) v1.cells.toList (d1, p1) hm1 hw1
  obtain ⟨A1_, len1, c1_, rfl⟩ := okWide_slice Tryd.underlying22 (hval 1 22 v1 rfl rfl)
  obtain ⟨A1, c1, hcs1, hc1, hr1⟩ := hK1
  obtain ⟨rfl, rfl, rfl⟩ : A1 = A1_ ∧ len1 = x1.length ∧ c1 = c1_ := by have h_ := hcs1; simp [Value.cells] at h_; exact ⟨h_.1.symm, h_.2.1, h_.2.2.symm⟩
  clear hA0 hval0 hsz0 hsz
  obtain ⟨k, h⟩ := pureG x0 x1 hG0 hG1
  refine (refrainlaw1_ValueOps.calls k A0 c0 x0 A1 c1 x1 true W hr0 hc0 hr1 hc1 ⟨LErr_of hL⟩ ⟨LG0_of hL⟩ ⟨LG1_of hL⟩ ⟨LSyn_of hL⟩ h rfl).mono fun e W' hpost => ?_
  obtain ⟨he, bel0⟩ := hpost
  have bel : Below W.heap.size W W' := bel0
  subst he
  exact ⟨_, rfl, _, _, _, [], _, [], hW', trodAll_mk1 (shut_bool Tryd.underlying4 _), (trodAll_cons_mk (Below.trod laidOut (by kernel_rfl) (of_decide_eq_true (by kernel_rfl)) k0 bel lt0) (trodAll_cons_mk (Below.trod laidOut (by kernel_rfl) (of_decide_eq_true (by kernel_rfl)) k1 bel lt1) trodAll_mk0)), rfl, bel.frame _, fun h => by cases h⟩
theorem over : Rows.valueOpsRow.holds Tryd.pinned (OpenSpec.ofChange Rows.valueOpsSpec) :=
  OpenClaim.holds_of_wide 7 Tryd.f7 rfl rfl rfl rfl rfl rfl rfl ⟨rfl, rfl, rfl, rfl, rfl⟩ rfl rfl rfl rfl rfl (by kernel_rfl) Tryd.func7 (by kernel_rfl)
    (of_decide_eq_true (by kernel_rfl)) (by unfold Func.isWrapper; first | (rw [if_pos (by decide +kernel)]; kernel_rfl) | (rw [if_neg (by decide +kernel)]; exact ⟨rfl, rfl⟩))
    (fun os started H enc _ => lifted os started H enc)
theorem proved : Rows.ValueOpsSaid := over
end Go.Proofs.YthhpeeckiggpaaaDoor.valueOps
namespace Go.Proofs.YthhpeeckiggpaaaDoor
open Go
/-- The tied card. -/
theorem valueOps_card_holds : Rows.ValueOpsCardSaid :=
  Claim7.holds_tied_plain_at .later [] [.data, .data, .data, .data, .sentinel, .sentinel, .data, .pinned, .pinned] true (true, "634c8a22d281de2fb54e12b2ea1623f4f40980fd96418a2c3038827170fc096b") true
    valueOps.proved (fun _ h => by cases h) (by kernel_rfl) (fun _ h => by cases h) valueOps_row_tie rfl ⟨rfl, rfl⟩ (by kernel_rfl) rfl
    (fun f fn hf hfn => by
      obtain rfl : f = 7 := Option.some.inj ((show Tryd.prog.funcNamed "refrain/refrainlaw1.ValueOps" = some 7 by kernel_rfl).symm.trans hf) |>.symm
      obtain rfl : fn = Tryd.f7 := (Option.some.inj (Tryd.func7.symm.trans hfn)).symm
      exact ⟨by kernel_rfl, fun j t ht => by
        rw [Tryd.params7] at ht
        have h3 : t = 39 ∨ t = 22 := by
          have h4 := List.mem_of_getElem? (by simpa using ht)
          simpa using h4
        rcases h3 with rfl | rfl
        · exact (show Tryd.prog.wantsStandIn 39 = false by kernel_rfl)
        · exact (show Tryd.prog.wantsStandIn 22 = false by kernel_rfl)⟩)
    (by kernel_rfl)
end Go.Proofs.YthhpeeckiggpaaaDoor

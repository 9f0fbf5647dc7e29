/-
The law ValueLogic: for every input that the row speaks of, the call returns true, and each argument reads as before. Conditions: the row's own (the listed package-level variables as the program's text lays them: tied by the card).
-/
import Derived.Test.YthhpeeckiggpaaaDoorRows
import Derived.Test.YthhpeeckiggpaaaDoorOpnValueLogic
import Derived.Test.YthhpeeckiggpaaaDoorPureValueLogic
import Derived.Test.YthhpeeckiggpaaaDoorTie
import Derived.Test.YthhpeeckiggpaaaDoorCards
import Derived.SevenTiedAt
import Derived.Lay
import Derived.LaidMore
import Derived.Stop.Joined
import Derived.LaidLaws
import Derived.LaidHandle
import Derived.Stop.LaidErr
import Derived.Handed
import Derived.WalkKit
import Derived.ProofKit
import Derived.OpenShut
import Derived.ShutString
import Derived.ChangeOld
import Derived.Below
import Derived.SizedLaws
import Derived.Lib.LaidTab
import Derived.WideShapes
namespace Go.Proofs.YthhpeeckiggpaaaDoor.valueLogic
open Go Go.ChangeShapes Go.WideShapes Go.ChangeAt Go.RowKit Go.Proofs.YthhpeeckiggpaaaDoor.Pr Go.Proofs.YthhpeeckiggpaaaDoor.Opn Go.Proofs.YthhpeeckiggpaaaDoorW.PrintWords Go.Proofs.YthhpeeckiggpaaaDoorW.PrintLast Go.Proofs.YthhpeeckiggpaaaDoorW.PrintMore
set_option linter.unusedVariables false
theorem LErr_of {W : World} (hL : laidMetH Tryd.prog Rows.valueLogicRow.laid W) : LErr W := by
  have h : laidMet Tryd.prog Rows.valueLogicRow.laid W := hL
  have h1 : laidMet Tryd.prog (("strconv.ErrRange", Rows.laid_strconv_ErrRange) :: [("strconv.ErrSyntax", Rows.laid_strconv_ErrSyntax), ("refrain/value.wants", Rows.laid_refrain_value_wants), ("unicode.CaseRanges", Rows.laid_unicode_CaseRanges), ("unicode/utf8.first", Rows.laid_unicode_utf8_first)]) W := h.tail.tail.tail.tail
  obtain ⟨_, ⟨g, t, cs, fuel, p, q, hg, ht, hv, hd, _, _⟩, _, _⟩ := h1
  obtain rfl := Option.some.inj ((show Tryd.prog.globalNamed "strconv.ErrRange" = some 7 by kernel_rfl).symm.trans hg)
  obtain rfl := Option.some.inj ((show (Tryd.prog.globals[7]?).map (·.type) = some 74 by kernel_rfl).symm.trans ht)
  obtain ⟨l⟩ := cs
  have hc := World.var?_cell hg hv 0
  obtain ⟨fuel', u, x, hcs, _, _⟩ := iface_of_trod Tryd.underlying74 hd
  have hcs' : l = [.iface u x] := hcs
  subst hcs'
  exact ⟨7, .iface u x, by kernel_rfl, by simpa using hc, .inr ⟨u, x, rfl⟩⟩
theorem LG0_of {W : World} (hL : laidMetH Tryd.prog Rows.valueLogicRow.laid W) : LG0 W := by
  have h : laidMet Tryd.prog Rows.valueLogicRow.laid W := hL
  have h1 : laidMet Tryd.prog (("refrain/value.wants", Rows.laid_refrain_value_wants) :: [("unicode.CaseRanges", Rows.laid_unicode_CaseRanges), ("unicode/utf8.first", Rows.laid_unicode_utf8_first)]) W := h.tail.tail.tail.tail.tail.tail
  exact Lib.tabIs_of_head (k := .i64) (zs := [0, 1, 2, 1, 1, 1, 3, 3, 4, 4, 4, 4, 2, 2]) (g := 0) (t := 96) (e := 3) (n := 14) (by kernel_rfl) (by kernel_rfl) Tryd.underlying96 Tryd.underlying3 (by kernel_rfl) (by kernel_rfl) h1
theorem LG1_of {W : World} (hL : laidMetH Tryd.prog Rows.valueLogicRow.laid W) : LG1 W := by
  have h : laidMet Tryd.prog Rows.valueLogicRow.laid W := hL
  have h1 : laidMet Tryd.prog (("internal/strconv.uint64pow10", Rows.laid_internal_strconv_uint64pow10) :: [("unicode/utf8.acceptRanges", Rows.laid_unicode_utf8_acceptRanges), ("strconv.ErrRange", Rows.laid_strconv_ErrRange), ("strconv.ErrSyntax", Rows.laid_strconv_ErrSyntax), ("refrain/value.wants", Rows.laid_refrain_value_wants), ("unicode.CaseRanges", Rows.laid_unicode_CaseRanges), ("unicode/utf8.first", Rows.laid_unicode_utf8_first)]) W := h.tail.tail
  exact Lib.tabIs_of_head (k := .u64) (zs := [1, 10, 100, 1000, 10000, 100000, 1000000, 10000000, 100000000, 1000000000, 10000000000, 100000000000, 1000000000000, 10000000000000, 100000000000000, 1000000000000000, 10000000000000000, 100000000000000000, 1000000000000000000, 10000000000000000000]) (g := 1) (t := 114) (e := 57) (n := 20) (by kernel_rfl) (by kernel_rfl) Tryd.underlying114 Tryd.underlying57 (by kernel_rfl) (by kernel_rfl) h1
theorem LSyn_of {W : World} (hL : laidMetH Tryd.prog Rows.valueLogicRow.laid W) : LSyn W := by
  have h : laidMet Tryd.prog Rows.valueLogicRow.laid W := hL
  have h1 : laidMet Tryd.prog (("strconv.ErrSyntax", Rows.laid_strconv_ErrSyntax) :: [("refrain/value.wants", Rows.laid_refrain_value_wants), ("unicode.CaseRanges", Rows.laid_unicode_CaseRanges), ("unicode/utf8.first", Rows.laid_unicode_utf8_first)]) W := h.tail.tail.tail.tail.tail
  obtain ⟨_, ⟨g, t, cs, fuel, p, q, hg, ht, hv, hd, _, _⟩, _, _⟩ := h1
  obtain rfl := Option.some.inj ((show Tryd.prog.globalNamed "strconv.ErrSyntax" = some 6 by kernel_rfl).symm.trans hg)
  obtain rfl := Option.some.inj ((show (Tryd.prog.globals[6]?).map (·.type) = some 74 by kernel_rfl).symm.trans ht)
  obtain ⟨l⟩ := cs
  have hc := World.var?_cell hg hv 0
  obtain ⟨fuel', u, x, hcs, _, _⟩ := iface_of_trod Tryd.underlying74 hd
  have hcs' : l = [.iface u x] := hcs
  subst hcs'
  exact ⟨6, .iface u x, by kernel_rfl, by simpa using hc, .inr ⟨u, x, rfl⟩⟩
theorem own : ownKnob Tryd.prog.godebug = none := by kernel_rfl
theorem laidOut : laidOutB Tryd.prog = true := by kernel_rfl
set_option maxRecDepth 100000 in
set_option maxHeartbeats 4000000 in
theorem lifted (os : Os) (started : os.Started) (H : Type) (enc : TypeId × Value → H) :
    ReturnsInHanded {} Tryd.checked os 9 .any (fun w args => (Rows.valueLogicSpec.pre enc Tryd.prog Tryd.f9 [] false w args ∧ laidMetH Tryd.prog Rows.valueLogicRow.laid w) ∧ sizedMet enc Tryd.prog Tryd.f9 (OpenSpec.ofChange Rows.valueLogicSpec) false w args) (Rows.valueLogicSpec.post enc Tryd.prog Tryd.f9 false true false false) := by
  refine returnsInHanded_of_change_and (C := Tryd.checked) (X := fun w _ => laidMetH Tryd.prog Rows.valueLogicRow.laid w) (fun _ _ _ hh h => h.of_heap hh) own started (by kernel_rfl) Tryd.func9
    (ChangeSpec.witness_shaped (enc := enc) (C := Tryd.checked) (os := os) (X := fun w _ => laidMetH Tryd.prog Rows.valueLogicRow.laid w) false (World.laidAll Tryd.prog os Rows.valueLogicRow.laid) #[.bool false, .bool false, .agg #[.int .i64 0, .int .i64 0, .string ByteArray.empty, .bool false], .agg #[.int .i64 0, .int .i64 0, .string ByteArray.empty, .bool false]] 8 (World.laidAll_os _ _ _)
      (World.shaped_of_ZipB (by kernel_rfl) (by kernel_rfl)) (by kernel_rfl) (by kernel_rfl) (by kernel_rfl)
      (by rw [MakeChecks.laidMetH_plain _ _ _ (by kernel_rfl)]; exact laidMet_laidAll _ (by kernel_rfl) (by kernel_rfl))) ?_
  intro W base args ds gs before hval0 hW hcnd hsz0 hL _
  have hsz : (DataW.weightsEach Tryd.prog (Tryd.f9.params.toList ++ Rows.valueLogicSpec.plain.varTypes Tryd.prog) (ds ++ gs)).all (· ≤ reachBytes) = true := hsz0
  have hval : ∀ (j : Nat) t v, Tryd.f9.params[j]? = some t → args[j]? = some v → Value.okWide Tryd.prog W .any base t v := hval0
  have hW' := hW
  obtain ⟨p, q, hA0, hV, rfl, hfz, hnd⟩ := hW
  have hA : DataW.TrodAll enc Tryd.prog W 0 (fun _ => true) true Tryd.f9.params.toList args.toList ds p := hA0
  rw [Tryd.params9] at hA hval hsz
  obtain ⟨v0, vs0, d0, ds0, p0, q0, hargs, rfl, rfl, h0, r0⟩ := trodAll_cons hA
  obtain ⟨v1, vs1, d1, ds1, p1, q1, rfl, rfl, rfl, h1, r1⟩ := trodAll_cons r0
  obtain ⟨v2, vs2, d2, ds2, p2, q2, rfl, rfl, rfl, h2, r2⟩ := trodAll_cons r1
  obtain ⟨v3, vs3, d3, ds3, p3, q3, rfl, rfl, rfl, h3, r3⟩ := trodAll_cons r2
  obtain ⟨rfl, rfl, rfl⟩ := trodAll_nil r3
  obtain rfl : args = #[v0, v1, v2, v3] := by cases args; simp_all
  obtain ⟨rfl, rfl⟩ := trodVars_none hV
  have k0 := h0
  have lt0 : ∀ x ∈ p0, x.block < W.heap.size := by obtain ⟨m, hm⟩ := k0; exact DataW.trod_lt m _ _ _ hm
  obtain ⟨m0, hm0⟩ := h0
  have hw0 : ∀ m ∈ d0.weights Tryd.prog 4, m ≤ reachBytes := fun m hm => by simpa using List.all_eq_true.1 hsz m (DataW.weights_mem_each (j := 0) (t := 4) (d := d0) rfl rfl m hm)
  obtain ⟨x0, hK0, hG0⟩ := (show OpensN Tryd.prog (m0 + 0) 4 Kd.bool (fun x => True) from by have n := m0; exact (opens_bool Tryd.underlying4)) H enc W true m0 (Nat.le_add_right _ _) v0.cells.toList (d0, p0) hm0 hw0
  obtain ⟨a0, rfl⟩ := okWide_bool Tryd.underlying4 (hval 0 4 v0 rfl rfl)
  obtain rfl : a0 = x0 := by simpa [Value.cells, Kd.int, Kd.bool, Kd.string, Kd.scalar] using hK0
  have k1 := h1
  have lt1 : ∀ x ∈ p1, x.block < W.heap.size := by obtain ⟨m, hm⟩ := k1; exact DataW.trod_lt m _ _ _ hm
  obtain ⟨m1, hm1⟩ := h1
  have hw1 : ∀ m ∈ d1.weights Tryd.prog 4, m ≤ reachBytes := fun m hm => by simpa using List.all_eq_true.1 hsz m (DataW.weights_mem_each (j := 1) (t := 4) (d := d1) rfl rfl m hm)
  obtain ⟨x1, hK1, hG1⟩ := (show OpensN Tryd.prog (m1 + 0) 4 Kd.bool (fun x => True) from by have n := m1; exact (opens_bool Tryd.underlying4)) H enc W true m1 (Nat.le_add_right _ _) v1.cells.toList (d1, p1) hm1 hw1
  obtain ⟨a1, rfl⟩ := okWide_bool Tryd.underlying4 (hval 1 4 v1 rfl rfl)
  obtain rfl : a1 = x1 := by simpa [Value.cells, Kd.int, Kd.bool, Kd.string, Kd.scalar] using hK1
  have k2 := h2
  have lt2 : ∀ x ∈ p2, x.block < W.heap.size := by obtain ⟨m, hm⟩ := k2; exact DataW.trod_lt m _ _ _ hm
  obtain ⟨m2, hm2⟩ := h2
  have hw2 : ∀ m ∈ d2.weights Tryd.prog 26, m ≤ reachBytes := fun m hm => by simpa using List.all_eq_true.1 hsz m (DataW.weights_mem_each (j := 2) (t := 26) (d := d2) rfl rfl m hm)
  obtain ⟨x2, hK2, hG2⟩ := (show OpensN Tryd.prog (m2 + 1) 26 k26 (fun x => G26 x) from by have n := m2; exact (op26 m2)) H enc W true m2 (Nat.le_add_right _ _) v2.cells.toList (d2, p2) hm2 hw2
  obtain ⟨cs2, rfl, _⟩ := okWide_struct Tryd.underlying26 (hval 2 26 v2 rfl rfl)
  obtain hcs2 := k26_open hK2
  obtain rfl : cs2 = #[.int .i64 x2.f0, .int .i64 x2.f1, .string x2.f2, .bool x2.f3] := by cases cs2; simpa [Value.cells] using hcs2
  have k3 := h3
  have lt3 : ∀ x ∈ p3, x.block < W.heap.size := by obtain ⟨m, hm⟩ := k3; exact DataW.trod_lt m _ _ _ hm
  obtain ⟨m3, hm3⟩ := h3
  have hw3 : ∀ m ∈ d3.weights Tryd.prog 26, m ≤ reachBytes := fun m hm => by simpa using List.all_eq_true.1 hsz m (DataW.weights_mem_each (j := 3) (t := 26) (d := d3) rfl rfl m hm)
  obtain ⟨x3, hK3, hG3⟩ := (show OpensN Tryd.prog (m3 + 1) 26 k26 (fun x => G26 x) from by have n := m3; exact (op26 m3)) H enc W true m3 (Nat.le_add_right _ _) v3.cells.toList (d3, p3) hm3 hw3
  obtain ⟨cs3, rfl, _⟩ := okWide_struct Tryd.underlying26 (hval 3 26 v3 rfl rfl)
  obtain hcs3 := k26_open hK3
  obtain rfl : cs3 = #[.int .i64 x3.f0, .int .i64 x3.f1, .string x3.f2, .bool x3.f3] := by cases cs3; simpa [Value.cells] using hcs3
  clear hA0 hval0 hsz0 hsz
  obtain ⟨k, h⟩ := pureG a0 a1 x2 x3 hG2 hG3
  refine (refrainlaw1_ValueLogic.calls k a0 a1 x2.f0 x2.f1 x2.f2 x2.f3 x3.f0 x3.f1 x3.f2 x3.f3 true W  ⟨LErr_of hL⟩ ⟨LG0_of hL⟩ ⟨LG1_of hL⟩ ⟨LSyn_of hL⟩ h rfl).mono fun e W' hpost => ?_
  obtain ⟨he, bel0⟩ := hpost
  have bel : Below W.heap.size W W' := bel0
  subst he
  exact ⟨_, rfl, _, _, _, [], _, [], hW', trodAll_mk1 (shut_bool Tryd.underlying4 _), (trodAll_cons_mk (Below.trod laidOut (by kernel_rfl) (of_decide_eq_true (by kernel_rfl)) k0 bel lt0) (trodAll_cons_mk (Below.trod laidOut (by kernel_rfl) (of_decide_eq_true (by kernel_rfl)) k1 bel lt1) (trodAll_cons_mk (Below.trod laidOut (by kernel_rfl) (of_decide_eq_true (by kernel_rfl)) k2 bel lt2) (trodAll_cons_mk (Below.trod laidOut (by kernel_rfl) (of_decide_eq_true (by kernel_rfl)) k3 bel lt3) trodAll_mk0)))), rfl, bel.frame _, fun h => by cases h⟩
theorem over : Rows.valueLogicRow.holds Tryd.pinned (OpenSpec.ofChange Rows.valueLogicSpec) :=
  OpenClaim.holds_of_wide 9 Tryd.f9 rfl rfl rfl rfl rfl rfl rfl ⟨rfl, rfl, rfl, rfl, rfl⟩ rfl rfl rfl rfl rfl (by kernel_rfl) Tryd.func9 (by kernel_rfl)
    (of_decide_eq_true (by kernel_rfl)) (by unfold Func.isWrapper; first | (rw [if_pos (by decide +kernel)]; kernel_rfl) | (rw [if_neg (by decide +kernel)]; exact ⟨rfl, rfl⟩))
    (fun os started H enc _ => lifted os started H enc)
theorem proved : Rows.ValueLogicSaid := over
end Go.Proofs.YthhpeeckiggpaaaDoor.valueLogic
namespace Go.Proofs.YthhpeeckiggpaaaDoor
open Go
/-- The tied card. -/
theorem valueLogic_card_holds : Rows.ValueLogicCardSaid :=
  Claim7.holds_tied_plain_at .later [] [.data, .data, .data, .data, .sentinel, .sentinel, .data, .pinned, .pinned] true (true, "634c8a22d281de2fb54e12b2ea1623f4f40980fd96418a2c3038827170fc096b") true
    valueLogic.proved (fun _ h => by cases h) (by kernel_rfl) (fun _ h => by cases h) valueLogic_row_tie rfl ⟨rfl, rfl⟩ (by kernel_rfl) rfl
    (fun f fn hf hfn => by
      obtain rfl : f = 9 := Option.some.inj ((show Tryd.prog.funcNamed "refrain/refrainlaw1.ValueLogic" = some 9 by kernel_rfl).symm.trans hf) |>.symm
      obtain rfl : fn = Tryd.f9 := (Option.some.inj (Tryd.func9.symm.trans hfn)).symm
      exact ⟨by kernel_rfl, fun j t ht => by
        rw [Tryd.params9] at ht
        have h3 : t = 4 ∨ t = 26 := by
          have h4 := List.mem_of_getElem? (by simpa using ht)
          simpa using h4
        rcases h3 with rfl | rfl
        · exact (show Tryd.prog.wantsStandIn 4 = false by kernel_rfl)
        · exact (show Tryd.prog.wantsStandIn 26 = false by kernel_rfl)⟩)
    (by kernel_rfl)
end Go.Proofs.YthhpeeckiggpaaaDoor

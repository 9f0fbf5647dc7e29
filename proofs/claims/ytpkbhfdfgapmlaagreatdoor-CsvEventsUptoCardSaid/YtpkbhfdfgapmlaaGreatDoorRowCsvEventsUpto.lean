/-
The law CsvEvents: for every input of bulk at most 1048576 (the second form), the call returns true, and each argument reads as before. Conditions: the row's own (the listed package-level variables as the program's text lays them: tied by the card).
-/
import Derived.Test.YtpkbhfdfgapmlaaGreatDoorMCsvTwo0
import Derived.Test.YtpkbhfdfgapmlaaGreatDoorMCsvTwo1
import Derived.Test.YtpkbhfdfgapmlaaGreatDoorMCsvTwo2
import Derived.Test.YtpkbhfdfgapmlaaGreatDoorMCsvTwo3
import Derived.Test.YtpkbhfdfgapmlaaGreatDoorMCsvTwo4
import Derived.Test.YtpkbhfdfgapmlaaGreatDoorMCsvTwo5
import Derived.Test.YtpkbhfdfgapmlaaGreatDoorMCsvTwo6
import Derived.Test.YtpkbhfdfgapmlaaGreatDoorMCsvTwo9
import Derived.Test.YtpkbhfdfgapmlaaGreatDoorMCsvTwo10
import Derived.Test.YtpkbhfdfgapmlaaGreatDoorMCsvTwo11
import Derived.Test.YtpkbhfdfgapmlaaGreatDoorMCsvTwo12
import Derived.Test.YtpkbhfdfgapmlaaGreatDoorRows
import Derived.Test.YtpkbhfdfgapmlaaGreatDoorTie
import Derived.Test.YtpkbhfdfgapmlaaGreatDoorCards
import Derived.SevenTiedAt
import Derived.Lay
import Derived.LaidMore
import Derived.Stop.Joined
import Derived.LaidLaws
import Derived.LaidHandle
import Derived.Stop.LaidErr
import Derived.Handed
import Derived.Deep.DeepHandedRow
import Derived.WalkKit
import Derived.ProofKit
import Derived.OpenShut
import Derived.ShutString
import Derived.ChangeOld
import Derived.Below
import Derived.SizedLaws
import Derived.Lib.LaidTab
import Derived.WideShapes
namespace Go.Proofs.YtpkbhfdfgapmlaaGreatDoor.csvEvents
open Go Go.ChangeShapes Go.WideShapes Go.ChangeAt Go.RowKit Go.Proofs.YtpkbhfdfgapmlaaGreatDoor.Pr Go.Proofs.YtpkbhfdfgapmlaaGreatDoor.Opn Go.Proofs.YtpkbhfdfgapmlaaGreatDoorW.PrintWords Go.Proofs.YtpkbhfdfgapmlaaGreatDoorW.PrintLast Go.Proofs.YtpkbhfdfgapmlaaGreatDoorW.PrintMore
set_option linter.unusedVariables false
theorem LErr_of {W : World} (hL : laidMetH Tryz.prog Rows.csvEventsUptoRow.laid W) : LErr W := by
  have h : laidMet Tryz.prog Rows.csvEventsUptoRow.laid W := hL
  have h1 : laidMet Tryz.prog (("strconv.ErrRange", Rows.laid_strconv_ErrRange) :: [("strconv.ErrSyntax", Rows.laid_strconv_ErrSyntax), ("unicode.CaseRanges", Rows.laid_unicode_CaseRanges), ("unicode/utf8.first", Rows.laid_unicode_utf8_first)]) W := h.tail.tail.tail.tail
  obtain ⟨_, ⟨g, t, cs, fuel, p, q, hg, ht, hv, hd, _, _⟩, _, _⟩ := h1
  obtain rfl := Option.some.inj ((show Tryz.prog.globalNamed "strconv.ErrRange" = some 6 by kernel_rfl).symm.trans hg)
  obtain rfl := Option.some.inj ((show (Tryz.prog.globals[6]?).map (·.type) = some 96 by kernel_rfl).symm.trans ht)
  obtain ⟨l⟩ := cs
  have hc := World.var?_cell hg hv 0
  obtain ⟨fuel', u, x, hcs, _, _⟩ := iface_of_trod Tryz.underlying96 hd
  have hcs' : l = [.iface u x] := hcs
  subst hcs'
  exact ⟨6, .iface u x, by kernel_rfl, by simpa using hc, .inr ⟨u, x, rfl⟩⟩
theorem LG0_of {W : World} (hL : laidMetH Tryz.prog Rows.csvEventsUptoRow.laid W) : LG0 W := by
  have h : laidMet Tryz.prog Rows.csvEventsUptoRow.laid W := hL
  have h1 : laidMet Tryz.prog (("internal/strconv.uint64pow10", Rows.laid_internal_strconv_uint64pow10) :: [("unicode/utf8.acceptRanges", Rows.laid_unicode_utf8_acceptRanges), ("strconv.ErrRange", Rows.laid_strconv_ErrRange), ("strconv.ErrSyntax", Rows.laid_strconv_ErrSyntax), ("unicode.CaseRanges", Rows.laid_unicode_CaseRanges), ("unicode/utf8.first", Rows.laid_unicode_utf8_first)]) W := h.tail.tail
  exact Lib.tabIs_of_head (k := .u64) (zs := [1, 10, 100, 1000, 10000, 100000, 1000000, 10000000, 100000000, 1000000000, 10000000000, 100000000000, 1000000000000, 10000000000000, 100000000000000, 1000000000000000, 10000000000000000, 100000000000000000, 1000000000000000000, 10000000000000000000]) (g := 0) (t := 173) (e := 118) (n := 20) (by kernel_rfl) (by kernel_rfl) Tryz.underlying173 Tryz.underlying118 (by kernel_rfl) (by kernel_rfl) h1
theorem LSyn_of {W : World} (hL : laidMetH Tryz.prog Rows.csvEventsUptoRow.laid W) : LSyn W := by
  have h : laidMet Tryz.prog Rows.csvEventsUptoRow.laid W := hL
  have h1 : laidMet Tryz.prog (("strconv.ErrSyntax", Rows.laid_strconv_ErrSyntax) :: [("unicode.CaseRanges", Rows.laid_unicode_CaseRanges), ("unicode/utf8.first", Rows.laid_unicode_utf8_first)]) W := h.tail.tail.tail.tail.tail
  obtain ⟨_, ⟨g, t, cs, fuel, p, q, hg, ht, hv, hd, _, _⟩, _, _⟩ := h1
  obtain rfl := Option.some.inj ((show Tryz.prog.globalNamed "strconv.ErrSyntax" = some 5 by kernel_rfl).symm.trans hg)
  obtain rfl := Option.some.inj ((show (Tryz.prog.globals[5]?).map (·.type) = some 96 by kernel_rfl).symm.trans ht)
  obtain ⟨l⟩ := cs
  have hc := World.var?_cell hg hv 0
  obtain ⟨fuel', u, x, hcs, _, _⟩ := iface_of_trod Tryz.underlying96 hd
  have hcs' : l = [.iface u x] := hcs
  subst hcs'
  exact ⟨5, .iface u x, by kernel_rfl, by simpa using hc, .inr ⟨u, x, rfl⟩⟩
theorem own : ownKnob Tryz.prog.godebug = none := by kernel_rfl
theorem laidOut : laidOutB Tryz.prog = true := by kernel_rfl
theorem reads (os : Os) {H : Type} (enc : TypeId × Value → H) : ∃ places, DataW.whole enc Tryz.prog ((World.laidAll Tryz.prog os Rows.csvEventsUptoRow.laid).forCall (fun _ _ => 0) ⟨#[], #[.agg #[.string ByteArray.empty, .slice none 0 0], .slice none 0 0, .slice none 0 0], []⟩).memory Tryz.f3.params.toList Rows.csvEventsSpec.vars false (#[.agg #[.string ByteArray.empty, .slice none 0 0], .slice none 0 0, .slice none 0 0] : Array Value).toList 8 = some ([.agg [.lit (.string []), .nil], .nil, .nil], [], places) :=
  ⟨[], by kernel_rfl⟩
theorem okW (os : Os) : Input.okWideB Tryz.prog ((World.laidAll Tryz.prog os Rows.csvEventsUptoRow.laid).forCall (fun _ _ => 0) ⟨#[], #[.agg #[.string ByteArray.empty, .slice none 0 0], .slice none 0 0, .slice none 0 0], []⟩) 3 ⟨#[], #[.agg #[.string ByteArray.empty, .slice none 0 0], .slice none 0 0, .slice none 0 0], []⟩ = true := by kernel_rfl
set_option maxRecDepth 100000 in
set_option maxHeartbeats 4000000 in
theorem lifted (os : Os) (started : os.Started) (H : Type) (enc : TypeId × Value → H) (F : Stop.Interp) :
    ReturnsInHanded {} Tryz.checked os 3 .any ((Rows.OpenSpec.upto Rows.csvEventsSpec).preRow enc Tryz.prog Tryz.f3 Rows.csvEventsUptoRow.domain false Rows.csvEventsUptoRow.laid) (((Rows.OpenSpec.upto Rows.csvEventsSpec).at F).post enc Tryz.prog Tryz.f3 false true false false) := by
  obtain ⟨places, hx⟩ := reads os enc
  refine returnsInHanded_of_row (C := Tryz.checked) (s := Rows.OpenSpec.upto Rows.csvEventsSpec) own started (by kernel_rfl) Tryz.func3
    ⟨World.laidAll Tryz.prog os Rows.csvEventsUptoRow.laid, fun _ _ => 0, ⟨#[], #[.agg #[.string ByteArray.empty, .slice none 0 0], .slice none 0 0, .slice none 0 0], []⟩, World.laidAll_os _ _ _, World.shaped_of_ZipB (by kernel_rfl) (by kernel_rfl), (Input.okWide_of_okWideB (base := 0) (okW os)).1, (Input.okWide_of_okWideB (okW os)).2,
      OpenSpec.preRow_of_cond 8 hx (by kernel_rfl) (fun k hk => by cases hk; kernel_rfl) (by kernel_rfl) (by rw [MakeChecks.laidMetH_plain _ _ _ (by kernel_rfl)]; exact laidMet_laidAll _ (by kernel_rfl) (by kernel_rfl)), by
      simp only [Assume.holds]
      exact ⟨by simp, by simp, fun _ => Modest.zero, by simp, by simp⟩⟩ ?_
  intro W base args ds gs before hval0 hW hcnd hcond hsz0 hL hSH _
  have hbulk0 : Rows.uptoBulkAll (ds ++ gs) ≤ 1048576 := of_decide_eq_true (hcond _ rfl)
  have hsz : (DataW.weightsEach Tryz.prog (Tryz.f3.params.toList ++ Rows.csvEventsSpec.plain.varTypes Tryz.prog) (ds ++ gs)).all (· ≤ reachBytes) = true := hsz0
  have hval : ∀ (j : Nat) t v, Tryz.f3.params[j]? = some t → args[j]? = some v → Value.okWide Tryz.prog W .any base t v := hval0
  have hW' := hW
  obtain ⟨p, q, hA0, hV, rfl, hfz, hnd⟩ := hW
  have hA : DataW.TrodAll enc Tryz.prog W 0 (fun _ => true) true Tryz.f3.params.toList args.toList ds p := hA0
  rw [Tryz.params3] at hA hval hsz
  obtain ⟨v0, vs0, d0, ds0, p0, q0, hargs, rfl, rfl, h0, r0⟩ := trodAll_cons hA
  obtain ⟨v1, vs1, d1, ds1, p1, q1, rfl, rfl, rfl, h1, r1⟩ := trodAll_cons r0
  obtain ⟨v2, vs2, d2, ds2, p2, q2, rfl, rfl, rfl, h2, r2⟩ := trodAll_cons r1
  obtain ⟨rfl, rfl, rfl⟩ := trodAll_nil r2
  obtain rfl : args = #[v0, v1, v2] := by cases args; simp_all
  obtain ⟨rfl, rfl⟩ := trodVars_none hV
  have k0 := h0
  have lt0 : ∀ x ∈ p0, x.block < W.heap.size := by obtain ⟨m, hm⟩ := k0; exact DataW.trod_lt m _ _ _ hm
  obtain ⟨m0, hm0⟩ := h0
  have hw0 : ∀ m ∈ d0.weights Tryz.prog 24, m ≤ reachBytes := fun m hm => by simpa using List.all_eq_true.1 hsz m (DataW.weights_mem_each (j := 0) (t := 24) (d := d0) rfl rfl m hm)
  obtain ⟨x0, hK0, hG0, hM0⟩ := (show OpensB Tryz.prog (m0 + 3) 24 k24 (fun x => G24 x) (fun x => M24 x) from by have n := m0; exact (opB24 m0)) H enc W true m0 (Nat.le_add_right _ _) v0.cells.toList (d0, p0) hm0 hw0
  obtain ⟨cs0, rfl, _⟩ := okWide_struct Tryz.underlying24 (hval 0 24 v0 rfl rfl)
  obtain ⟨A0_1, c0_1, hcs0, hc0_1, hr0_1⟩ := k24_open hK0
  obtain rfl : cs0 = #[.string x0.f0, .slice A0_1 x0.f1.length c0_1] := by cases cs0; simpa [Value.cells] using hcs0
  have k1 := h1
  have lt1 : ∀ x ∈ p1, x.block < W.heap.size := by obtain ⟨m, hm⟩ := k1; exact DataW.trod_lt m _ _ _ hm
  obtain ⟨m1, hm1⟩ := h1
  have hw1 : ∀ m ∈ d1.weights Tryz.prog 25, m ≤ reachBytes := fun m hm => by simpa using List.all_eq_true.1 hsz m (DataW.weights_mem_each (j := 1) (t := 25) (d := d1) rfl rfl m hm)
  obtain ⟨x1, hK1, hG1, hM1⟩ := (show OpensB Tryz.prog (m1 + 2) 25 (Kd.slice 39 (Kd.slice 9 Kd.string)) (fun x => LG 24 (fun x => LG 16 (fun x => x.size ≤ 140737488351232) x) x) (fun x => ((List.map (fun x => ((List.map (fun x => (x.size + 1)) x).sum + 1)) x).sum + 1)) from by have n := m1; exact (opensB_slice (e := 39) Tryz.underlying25 (by kernel_rfl) (B := 24) (by kernel_rfl) (opensB_slice (e := 9) Tryz.underlying39 (by kernel_rfl) (B := 16) (by kernel_rfl) (opensB_string Tryz.underlying9)))) H enc W true m1 (Nat.le_add_right _ _) v1.cells.toList (d1, p1) hm1 hw1
  obtain ⟨A1_, len1, c1_, rfl⟩ := okWide_slice Tryz.underlying25 (hval 1 25 v1 rfl rfl)
  obtain ⟨A1, c1, hcs1, hc1, hr1⟩ := hK1
  obtain ⟨rfl, rfl, rfl⟩ : A1 = A1_ ∧ len1 = x1.length ∧ c1 = c1_ := by have h_ := hcs1; simp [Value.cells] at h_; exact ⟨h_.1.symm, h_.2.1, h_.2.2.symm⟩
  have k2 := h2
  have lt2 : ∀ x ∈ p2, x.block < W.heap.size := by obtain ⟨m, hm⟩ := k2; exact DataW.trod_lt m _ _ _ hm
  obtain ⟨m2, hm2⟩ := h2
  have hw2 : ∀ m ∈ d2.weights Tryz.prog 26, m ≤ reachBytes := fun m hm => by simpa using List.all_eq_true.1 hsz m (DataW.weights_mem_each (j := 2) (t := 26) (d := d2) rfl rfl m hm)
  obtain ⟨x2, hK2, hG2, hM2⟩ := (show OpensB Tryz.prog (m2 + 4) 26 (Kd.slice 35 k35) (fun x => LG 48 (fun x => G35 x) x) (fun x => ((List.map (fun x => M35 x) x).sum + 1)) from by have n := m2; exact (opensB_slice (e := 35) Tryz.underlying26 (by kernel_rfl) (B := 48) (by kernel_rfl) (opB35 m2))) H enc W true m2 (Nat.le_add_right _ _) v2.cells.toList (d2, p2) hm2 hw2
  obtain ⟨A2_, len2, c2_, rfl⟩ := okWide_slice Tryz.underlying26 (hval 2 26 v2 rfl rfl)
  obtain ⟨A2, c2, hcs2, hc2, hr2⟩ := hK2
  obtain ⟨rfl, rfl, rfl⟩ : A2 = A2_ ∧ len2 = x2.length ∧ c2 = c2_ := by have h_ := hcs2; simp [Value.cells] at h_; exact ⟨h_.1.symm, h_.2.1, h_.2.2.symm⟩
  clear hA0 hval0 hsz0 hsz
  have hbulk : M24 x0 + ((List.map (fun x => ((List.map (fun x => (x.size + 1)) x).sum + 1)) x1).sum + 1) + ((List.map (fun x => M35 x) x2).sum + 1) ≤ 1048576 := by
    have hM_0 : M24 x0 ≤ Rows.uptoBulk d0 := hM0
    have hM_1 : ((List.map (fun x => ((List.map (fun x => (x.size + 1)) x).sum + 1)) x1).sum + 1) ≤ Rows.uptoBulk d1 := hM1
    have hM_2 : ((List.map (fun x => M35 x) x2).sum + 1) ≤ Rows.uptoBulk d2 := hM2
    simp only [List.append_nil, Rows.uptoBulkAll] at hbulk0
    omega
  obtain ⟨k, h⟩ := pureG x0 x1 x2 hG0 hG1 hG2 hbulk
  refine (refrainlaw4_CsvEvents.calls k x0.f0 A0_1 c0_1 x0.f1 A1 c1 x1 A2 c2 x2 true W hr0_1 hc0_1 hr1 hc1 hr2 hc2 ⟨LErr_of hL⟩ ⟨LG0_of hL⟩ ⟨LMax_of hSH⟩ ⟨LSyn_of hL⟩ h).mono fun e W' hpost => ?_
  obtain ⟨he, bel0⟩ := hpost
  have bel : Below W.heap.size W W' := bel0
  subst he
  exact ⟨_, rfl, _, _, _, [], _, [], hW', trodAll_mk1 (shut_bool Tryz.underlying4 _), (trodAll_cons_mk (Below.trod laidOut (by kernel_rfl) (of_decide_eq_true (by kernel_rfl)) k0 bel lt0) (trodAll_cons_mk (Below.trod laidOut (by kernel_rfl) (of_decide_eq_true (by kernel_rfl)) k1 bel lt1) (trodAll_cons_mk (Below.trod laidOut (by kernel_rfl) (of_decide_eq_true (by kernel_rfl)) k2 bel lt2) trodAll_mk0))), rfl, bel.frame _, fun h => by cases h⟩
theorem proved : Rows.CsvEventsUptoSaid :=
  OpenClaim.holds_of_cond 3 Tryz.f3 rfl rfl rfl rfl rfl rfl rfl ⟨rfl, rfl, rfl, rfl, rfl⟩ rfl rfl rfl rfl rfl (by kernel_rfl) Tryz.func3 (by kernel_rfl)
    (of_decide_eq_true (by kernel_rfl)) (by unfold Func.isWrapper; first | (rw [if_pos (by decide +kernel)]; kernel_rfl) | (rw [if_neg (by decide +kernel)]; exact ⟨rfl, rfl⟩))
    (fun os started H enc _ F => by rw [OpenClaim.pre_eq_preRow]; exact lifted os started H enc F)
end Go.Proofs.YtpkbhfdfgapmlaaGreatDoor.csvEvents
namespace Go.Proofs.YtpkbhfdfgapmlaaGreatDoor
open Go
/-- The tied card. -/
theorem csvEventsUpto_card_holds : Rows.CsvEventsUptoCardSaid :=
  Claim7.holds_tied_plain_at .later [] _ _ _ _
    csvEvents.proved (fun _ h => by cases h) (by kernel_rfl) (fun _ h => by cases h) csvEventsUpto_row_tie rfl ⟨rfl, rfl⟩ (by kernel_rfl) rfl
    (fun f fn hf hfn => by
      obtain rfl : f = 3 := Option.some.inj ((show Tryz.prog.funcNamed "refrain/refrainlaw4.CsvEvents" = some 3 by kernel_rfl).symm.trans hf) |>.symm
      obtain rfl : fn = Tryz.f3 := (Option.some.inj (Tryz.func3.symm.trans hfn)).symm
      exact ⟨by kernel_rfl, fun j t ht => by
        rw [Tryz.params3] at ht
        have h3 : t = 24 ∨ t = 25 ∨ t = 26 := by
          have h4 := List.mem_of_getElem? (by simpa using ht)
          simpa using h4
        rcases h3 with rfl | rfl | rfl
        · exact (show Tryz.prog.wantsStandIn 24 = false by kernel_rfl)
        · exact (show Tryz.prog.wantsStandIn 25 = false by kernel_rfl)
        · exact (show Tryz.prog.wantsStandIn 26 = false by kernel_rfl)⟩)
    (by kernel_rfl)
end Go.Proofs.YtpkbhfdfgapmlaaGreatDoor

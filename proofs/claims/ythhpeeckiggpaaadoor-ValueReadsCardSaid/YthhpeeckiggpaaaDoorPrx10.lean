-- printed by a patched copy of the kit's print, for this seat
import Derived.Test.YthhpeeckiggpaaaDoorPrx0
import Derived.Test.YthhpeeckiggpaaaDoorPrx2
import Derived.Test.YthhpeeckiggpaaaDoorPrx8
import Derived.Test.YthhpeeckiggpaaaDoorPrx9
import Derived.Test.YthhpeeckiggpaaaDoorExtV1
namespace Go.Proofs.YthhpeeckiggpaaaDoor.Pr
open Go.RowKit Go.Proofs.YthhpeeckiggpaaaDoorW.PrintWords Go.Proofs.YthhpeeckiggpaaaDoorW.PrintLast Go.Proofs.YthhpeeckiggpaaaDoorW.PrintMore
attribute [local go_sem] max2_int min2_int max_two min_two max_three min_three max_four min_four   -- for this text's walks alone
attribute [local go_sem high] Go.Proofs.YthhpeeckiggpaaaDoor.isSome_setCell
set_option maxRecDepth 100000
set_option linter.unusedVariables false
set_option linter.unusedSimpArgs false

/-! ### refrainlaw1_ValueShows: function 3 -/
def refrainlaw1_ValueShows.l0 : Nat → List (S26) → Int → Option (Bool)
  | 0, _, _ => none
  | k + 1, x0, x4 => if x4 < (x0.length : Int) then (if 0 ≤ x4 then ((value_Valid.f ((rd_T26 x0 x4).f0) ((rd_T26 x0 x4).f1) ((rd_T26 x0 x4).f2) ((rd_T26 x0 x4).f3)).bind fun t281 => ((refrainref1_Valid.f ((rd_T26 x0 x4).f0) ((rd_T26 x0 x4).f1) ((rd_T26 x0 x4).f2) ((rd_T26 x0 x4).f3)).bind fun t283 => ((value_Show.f ((rd_T26 x0 x4).f0) ((rd_T26 x0 x4).f1) ((rd_T26 x0 x4).f2) ((rd_T26 x0 x4).f3)).bind fun bt285 => ((refrainref1_Show.f k ((rd_T26 x0 x4).f0) ((rd_T26 x0 x4).f1) ((rd_T26 x0 x4).f2) ((rd_T26 x0 x4).f3)).bind fun bt288 => (if (t281 != t283) = true then (some false) else (if bt285.1.toList = bt288.1.toList then (if bt285.2 = bt288.2 then (refrainlaw1_ValueShows.l0 k x0 (wrap64 (x4 + 1))) else (some false)) else (some false))))))) else (none)) else (some true)
def refrainlaw1_ValueShows.f (k : Nat) (l0 : List (S26)) : Option (Bool) := (refrainlaw1_begun.f k).bind fun t279 => (if t279 = true then (refrainlaw1_ValueShows.l0 k l0 0) else (some false))
set_option maxRecDepth 100000 in
theorem refrainlaw1_ValueShows.l0_zero : ∀ y0 y1, refrainlaw1_ValueShows.l0 0 y0 y1 = none := fun _ _ => rfl
set_option maxRecDepth 100000 in
theorem refrainlaw1_ValueShows.mono_l : ∀ k, (∀ y0 y1, LeO (refrainlaw1_ValueShows.l0 k y0 y1) (refrainlaw1_ValueShows.l0 (k + 1) y0 y1))
  | 0 => fun _ _ r h => by (unfold refrainlaw1_ValueShows.l0 at h; cases h)
  | k + 1 => by
    have ih0 := refrainlaw1_ValueShows.mono_l k
    · intro y0 y1
      unfold refrainlaw1_ValueShows.l0
      repeat' first
      | (with_reducible exact ih0 _ _)
      | (with_reducible exact refrainlaw1_begun.mono _)
      | (with_reducible exact refrainref1_Show.mono _ _ _ _ _)
      | (with_reducible exact LeO.refl _)
      | (with_reducible exact LeO.none _)
      | (with_reducible refine LeO.ite ?_ ?_)
      | (with_reducible refine LeO.bind ?_ (fun _ => ?_))
      | exact ih0 _ _
      | exact refrainlaw1_begun.mono _
      | exact refrainref1_Show.mono _ _ _ _ _
      | exact LeO.none _
      | refine LeO.ite ?_ ?_
      | refine LeO.bind ?_ (fun _ => ?_)
set_option maxRecDepth 100000 in
theorem refrainlaw1_ValueShows.mono : ∀ a0 k, LeO (refrainlaw1_ValueShows.f k a0) (refrainlaw1_ValueShows.f (k + 1) a0) := by
  intro a0 k
  have ih0 := refrainlaw1_ValueShows.mono_l k
  unfold refrainlaw1_ValueShows.f
  repeat' first
      | (with_reducible exact ih0 _ _)
      | (with_reducible exact refrainlaw1_begun.mono _)
      | (with_reducible exact refrainref1_Show.mono _ _ _ _ _)
      | (with_reducible exact LeO.refl _)
      | (with_reducible exact LeO.none _)
      | (with_reducible refine LeO.ite ?_ ?_)
      | (with_reducible refine LeO.bind ?_ (fun _ => ?_))
      | exact ih0 _ _
      | exact refrainlaw1_begun.mono _
      | exact refrainref1_Show.mono _ _ _ _ _
      | exact LeO.none _
      | refine LeO.ite ?_ ?_
      | refine LeO.bind ?_ (fun _ => ?_)
set_option maxHeartbeats 8000000 in
set_option maxRecDepth 100000 in
theorem refrainlaw1_ValueShows.calls (k : Nat) (A0 : Option Addr) (c0 : Nat) (l0 : List (S26)) (r : Bool) (w : World) (hr0 : Kd.C k26 w A0 l0.length l0) (hc0 : l0.length ≤ c0) (HL_LErr : Aside0 (LErr w)) (HL_LG0 : Aside0 (LG0 w)) (HL_LG1 : Aside0 (LG1 w)) (HL_LSyn : Aside0 (LSyn w)) (h : refrainlaw1_ValueShows.f k l0 = some r) (hr : r = true) :
    Calls Tryd.prog 3 #[.slice A0 l0.length c0] w fun e w' => e = .returned (.bool r) ∧ Below w.heap.size w w' := by
  replace hr := Aside0.mk hr
  have hu26 := Tryd.underlying26
  have HR0 := Aside0.mk hr0
  have HC0 := Aside0.mk hc0
  clear hr0 hc0
  have HB := Aside0.mk (Below.refl w.heap.size w)
  have H : ((refrainlaw1_begun.f k).bind fun t279 => (if t279 = true then (refrainlaw1_ValueShows.l0 k l0 0) else (some false))) = some r := h
  clear h
  replace H := Option.bind_eq_some_iff.mp H
  obtain ⟨t279, A20, H⟩ := H
  replace H : (if t279 = true then (refrainlaw1_ValueShows.l0 k l0 0) else (some false)) = some r := H
  have A2 := Aside0.mk A20
  clear A20
  by_cases c3 : t279 = true
  · subst c3
    have H1 : (refrainlaw1_ValueShows.l0 k l0 0) = some r := by rw [if_pos rfl] at H; exact H
    clear H
    have H := H1
    clear H1
    have H' := Aside0.mk H
    clear H
    go_enter Tryd.func3, Tryd.ntmps3
    go_wp2_with (first | ((with_reducible refine gate_callee (f := 10) rfl ?_); refine goesL_ (some 11) rfl rfl Tryd.func10 (by kernel_rfl) rfl #[] rfl (by (try simp only [List.map_toArray, List.map_cons, List.map_nil]); first | done | rfl | (simp only [List.length_drop, List.length_take]; rfl)) ?_; (with_reducible refine (refrainlaw1_begun.calls k  true _ ?side1 ?side2 ?side3 ?side4 A2.out (by first | rfl | exact hr.out)).mono ?_); (case side1 => first | (with_reducible exact HL_LErr) | exact ⟨LErr.below HL_LErr.out (by repeat (first | (with_reducible first | exact HB.out | apply below_alloc | apply pw_below_drewN | apply below_drew1) | exact HB.out))⟩); (case side2 => first | (with_reducible exact HL_LG0) | exact ⟨LG0.below HL_LG0.out (by repeat (first | (with_reducible first | exact HB.out | apply below_alloc | apply pw_below_drewN | apply below_drew1) | exact HB.out))⟩); (case side3 => first | (with_reducible exact HL_LG1) | exact ⟨LG1.below HL_LG1.out (by repeat (first | (with_reducible first | exact HB.out | apply below_alloc | apply pw_below_drewN | apply below_drew1) | exact HB.out))⟩); (case side4 => first | (with_reducible exact HL_LSyn) | exact ⟨LSyn.below HL_LSyn.out (by repeat (first | (with_reducible first | exact HB.out | apply below_alloc | apply pw_below_drewN | apply below_drew1) | exact HB.out))⟩); rintro e w4 ⟨rfl, hb⟩; refine ⟨_, rfl, ?_⟩; have n0_ := Aside0.mk (below_step (by repeat (first | (with_reducible first | exact HB.out | apply below_alloc | apply pw_below_drewN | apply below_drew1) | exact HB.out)) hb); clear HB; have HB := n0_; clear n0_; (try clear hb); (try clear hb2); (try clear hk); (try clear hi)))
    go_loopg [4] k (fun kq v4 w' => ∃ (x4_1 : Int), v4 = .int .i64 x4_1 ∧ Aside0 (refrainlaw1_ValueShows.l0 kq l0 x4_1 = some r) ∧ Aside0 (kq ≤ k) ∧ Aside0 (Below w.heap.size w w'))
    case atStart => exact ⟨(0), (by first | rfl | (simp; done) | (simp [*]; done) | (simp; unfold wrap64; omega)), H', ⟨Nat.le_refl _⟩, ⟨by repeat (first | (with_reducible first | exact HB.out | apply below_alloc | apply pw_below_drewN | apply below_drew1) | exact HB.out)⟩⟩
    case round =>
      clear H'
      try clear c1
      try clear p2
      try clear c3
      obtain ⟨x4_1, rfl, HA, HK1, HB⟩ := hrel
      cases gk with
      | zero => (have HA2 := HA.out; clear HA; revert HA2; rw [refrainlaw1_ValueShows.l0_zero]; intro h_; cases h_)
      | succ k1 =>
        have H := HA.out
        clear HA
        simp only [refrainlaw1_ValueShows.l0] at H
        by_cases c5 : x4_1 < (l0.length : Int)
        · rw [if_pos c5] at H
          have c5b0 : decide (x4_1 < (l0.length : Int)) = true := decide_eq_true c5
          clear c5
          by_cases c6 : 0 ≤ x4_1
          · rw [if_pos c6] at H
            have c6b0 : decide (0 ≤ x4_1) = true := decide_eq_true c6
            clear c6
            replace H := Option.bind_eq_some_iff.mp H
            obtain ⟨t281, A70, H⟩ := H
            replace H : ((refrainref1_Valid.f ((rd_T26 l0 x4_1).f0) ((rd_T26 l0 x4_1).f1) ((rd_T26 l0 x4_1).f2) ((rd_T26 l0 x4_1).f3)).bind fun t283 => ((value_Show.f ((rd_T26 l0 x4_1).f0) ((rd_T26 l0 x4_1).f1) ((rd_T26 l0 x4_1).f2) ((rd_T26 l0 x4_1).f3)).bind fun bt285 => ((refrainref1_Show.f k1 ((rd_T26 l0 x4_1).f0) ((rd_T26 l0 x4_1).f1) ((rd_T26 l0 x4_1).f2) ((rd_T26 l0 x4_1).f3)).bind fun bt288 => (if (t281 != t283) = true then (some false) else (if bt285.1.toList = bt288.1.toList then (if bt285.2 = bt288.2 then (refrainlaw1_ValueShows.l0 k1 l0 (wrap64 (x4_1 + 1))) else (some false)) else (some false)))))) = some r := H
            have A7 := Aside0.mk A70
            clear A70
            replace H := Option.bind_eq_some_iff.mp H
            obtain ⟨t283, A80, H⟩ := H
            replace H : ((value_Show.f ((rd_T26 l0 x4_1).f0) ((rd_T26 l0 x4_1).f1) ((rd_T26 l0 x4_1).f2) ((rd_T26 l0 x4_1).f3)).bind fun bt285 => ((refrainref1_Show.f k1 ((rd_T26 l0 x4_1).f0) ((rd_T26 l0 x4_1).f1) ((rd_T26 l0 x4_1).f2) ((rd_T26 l0 x4_1).f3)).bind fun bt288 => (if (t281 != t283) = true then (some false) else (if bt285.1.toList = bt288.1.toList then (if bt285.2 = bt288.2 then (refrainlaw1_ValueShows.l0 k1 l0 (wrap64 (x4_1 + 1))) else (some false)) else (some false))))) = some r := H
            have A8 := Aside0.mk A80
            clear A80
            replace H := Option.bind_eq_some_iff.mp H
            obtain ⟨⟨t285, t286⟩, A90, H⟩ := H
            replace H : ((refrainref1_Show.f k1 ((rd_T26 l0 x4_1).f0) ((rd_T26 l0 x4_1).f1) ((rd_T26 l0 x4_1).f2) ((rd_T26 l0 x4_1).f3)).bind fun bt288 => (if (t281 != t283) = true then (some false) else (if t285.toList = bt288.1.toList then (if t286 = bt288.2 then (refrainlaw1_ValueShows.l0 k1 l0 (wrap64 (x4_1 + 1))) else (some false)) else (some false)))) = some r := H
            have A9 := Aside0.mk A90
            clear A90
            replace H := Option.bind_eq_some_iff.mp H
            obtain ⟨⟨t288, t289⟩, A100, H⟩ := H
            replace H : (if (t281 != t283) = true then (some false) else (if t285.toList = t288.toList then (if t286 = t289 then (refrainlaw1_ValueShows.l0 k1 l0 (wrap64 (x4_1 + 1))) else (some false)) else (some false))) = some r := H
            have A10 := Aside0.mk A100
            clear A100
            by_cases c11 : (t281 != t283) = true
            · rw [if_pos c11] at H
              have c11b0 : (t281 != t283) = true := c11
              (try (have c11b1 : decide (t281 = t283) = false := by simpa using c11))
              (try (have c11b2 : (t281 == t283) = false := by simpa using c11))
              (try (have c11b3 : ¬ (t281 = t283) := by simpa using c11))
              clear c11
              exact absurd ((Option.some.inj H).trans hr.out) Bool.false_ne_true
            · rw [if_neg c11] at H
              have c11b0 : (t281 != t283) = false := by simpa using c11
              (try (have c11b1 : decide (t281 = t283) = true := by simpa using c11))
              (try (have c11b2 : (t281 == t283) = true := by simpa using c11))
              clear c11
              by_cases c16 : t285.toList = t288.toList
              · rw [if_pos c16] at H
                have c16b0 : (t285.toList == t288.toList) = true := beq_iff_eq.mpr c16
                have c16b1 : (t285.toList != t288.toList) = false := bne_eq_false_iff_eq.mpr c16
                clear c16
                by_cases c17 : t286 = t289
                · rw [if_pos c17] at H
                  have c17b0 : (t286 == t289) = true := beq_iff_eq.mpr c17
                  have c17b1 : (t286 != t289) = false := bne_eq_false_iff_eq.mpr c17
                  clear c17
                  have H' := Aside0.mk H
                  clear H
                  have p280 : 0 ≤ (x4_1 : Int) := of_decide_eq_true (by first | (with_reducible assumption) | assumption)
                  have q280 : x4_1 < (l0.length : Int) := of_decide_eq_true (by first | (with_reducible assumption) | assumption)
                  obtain ⟨ad280, e280, hx280_0, hx280_1, hx280_2, hx280_3⟩ := at_T26 HR0.out x4_1 p280 q280
                  cases e280
                  replace hx280_0 := (HB.out.cell (World.block_lt_of_cell? w _ hx280_0)).trans hx280_0
                  replace hx280_1 := (HB.out.cell (World.block_lt_of_cell? w _ hx280_1)).trans hx280_1
                  replace hx280_2 := (HB.out.cell (World.block_lt_of_cell? w _ hx280_2)).trans hx280_2
                  replace hx280_3 := (HB.out.cell (World.block_lt_of_cell? w _ hx280_3)).trans hx280_3
                  replace p280 := eq_true p280
                  replace q280 := eq_true q280
                  go_wp2_with (first | ((with_reducible refine gate_callee (f := 11) rfl ?_); refine goesL_ (some 24) rfl rfl Tryd.func11 (by kernel_rfl) rfl #[.agg #[.int .i64 ((rd_T26 l0 x4_1).f0), .int .i64 ((rd_T26 l0 x4_1).f1), .string ((rd_T26 l0 x4_1).f2), .bool ((rd_T26 l0 x4_1).f3)]] rfl (by (try simp only [List.map_toArray, List.map_cons, List.map_nil]); first | done | rfl | (simp only [List.length_drop, List.length_take]; rfl)) ?_; (with_reducible refine (value_Valid.calls ((rd_T26 l0 x4_1).f0) ((rd_T26 l0 x4_1).f1) ((rd_T26 l0 x4_1).f2) ((rd_T26 l0 x4_1).f3) t281 _ A7.out).mono ?_); rintro e w18 ⟨rfl, hb⟩; refine ⟨_, rfl, ?_⟩; have n0_ := Aside0.mk (below_step (by repeat (first | (with_reducible first | exact HB.out | apply below_alloc | apply pw_below_drewN | apply below_drew1) | exact HB.out)) hb); clear HB; have HB := n0_; clear n0_; (try clear hb); (try clear hb2); (try clear hk); (try clear hi); have p282 : 0 ≤ (x4_1 : Int) := of_decide_eq_true (by first | (with_reducible assumption) | assumption); have q282 : x4_1 < (l0.length : Int) := of_decide_eq_true (by first | (with_reducible assumption) | assumption); obtain ⟨ad282, e282, hx282_0, hx282_1, hx282_2, hx282_3⟩ := at_T26 HR0.out x4_1 p282 q282; obtain rfl : ad280 = ad282 := (by injection e282); replace hx282_0 := (HB.out.cell (World.block_lt_of_cell? w _ hx282_0)).trans hx282_0; replace hx282_1 := (HB.out.cell (World.block_lt_of_cell? w _ hx282_1)).trans hx282_1; replace hx282_2 := (HB.out.cell (World.block_lt_of_cell? w _ hx282_2)).trans hx282_2; replace hx282_3 := (HB.out.cell (World.block_lt_of_cell? w _ hx282_3)).trans hx282_3; replace p282 := eq_true p282; replace q282 := eq_true q282) | ((with_reducible refine gate_callee (f := 12) rfl ?_); refine goesL_ (some 29) rfl rfl Tryd.func12 (by kernel_rfl) rfl #[.agg #[.int .i64 ((rd_T26 l0 x4_1).f0), .int .i64 ((rd_T26 l0 x4_1).f1), .string ((rd_T26 l0 x4_1).f2), .bool ((rd_T26 l0 x4_1).f3)]] rfl (by (try simp only [List.map_toArray, List.map_cons, List.map_nil]); first | done | rfl | (simp only [List.length_drop, List.length_take]; rfl)) ?_; (with_reducible refine (refrainref1_Valid.calls ((rd_T26 l0 x4_1).f0) ((rd_T26 l0 x4_1).f1) ((rd_T26 l0 x4_1).f2) ((rd_T26 l0 x4_1).f3) t283 _ A8.out).mono ?_); rintro e w19 ⟨rfl, hb⟩; refine ⟨_, rfl, ?_⟩; have n0_ := Aside0.mk (below_step (by repeat (first | (with_reducible first | exact HB.out | apply below_alloc | apply pw_below_drewN | apply below_drew1) | exact HB.out)) hb); clear HB; have HB := n0_; clear n0_; (try clear hb); (try clear hb2); (try clear hk); (try clear hi); have p284 : 0 ≤ (x4_1 : Int) := of_decide_eq_true (by first | (with_reducible assumption) | assumption); have q284 : x4_1 < (l0.length : Int) := of_decide_eq_true (by first | (with_reducible assumption) | assumption); obtain ⟨ad284, e284, hx284_0, hx284_1, hx284_2, hx284_3⟩ := at_T26 HR0.out x4_1 p284 q284; obtain rfl : ad280 = ad284 := (by injection e284); replace hx284_0 := (HB.out.cell (World.block_lt_of_cell? w _ hx284_0)).trans hx284_0; replace hx284_1 := (HB.out.cell (World.block_lt_of_cell? w _ hx284_1)).trans hx284_1; replace hx284_2 := (HB.out.cell (World.block_lt_of_cell? w _ hx284_2)).trans hx284_2; replace hx284_3 := (HB.out.cell (World.block_lt_of_cell? w _ hx284_3)).trans hx284_3; replace p284 := eq_true p284; replace q284 := eq_true q284) | ((with_reducible refine gate_callee (f := 13) rfl ?_); refine goesL_ (some 35) rfl rfl Tryd.func13 (by kernel_rfl) rfl #[.agg #[.int .i64 ((rd_T26 l0 x4_1).f0), .int .i64 ((rd_T26 l0 x4_1).f1), .string ((rd_T26 l0 x4_1).f2), .bool ((rd_T26 l0 x4_1).f3)]] rfl (by (try simp only [List.map_toArray, List.map_cons, List.map_nil]); first | done | rfl | (simp only [List.length_drop, List.length_take]; rfl)) ?_; (with_reducible refine (value_Show.calls ((rd_T26 l0 x4_1).f0) ((rd_T26 l0 x4_1).f1) ((rd_T26 l0 x4_1).f2) ((rd_T26 l0 x4_1).f3) t285 t286 _ ?side1 A9.out).mono ?_); (case side1 => first | (with_reducible exact HL_LG1) | exact ⟨LG1.below HL_LG1.out (by repeat (first | (with_reducible first | exact HB.out | apply below_alloc | apply pw_below_drewN | apply below_drew1) | exact HB.out))⟩); rintro e w20 ⟨rfl, hb⟩; refine ⟨_, rfl, ?_⟩; have n0_ := Aside0.mk (below_step (by repeat (first | (with_reducible first | exact HB.out | apply below_alloc | apply pw_below_drewN | apply below_drew1) | exact HB.out)) hb); clear HB; have HB := n0_; clear n0_; (try clear hb); (try clear hb2); (try clear hk); (try clear hi); have p287 : 0 ≤ (x4_1 : Int) := of_decide_eq_true (by first | (with_reducible assumption) | assumption); have q287 : x4_1 < (l0.length : Int) := of_decide_eq_true (by first | (with_reducible assumption) | assumption); obtain ⟨ad287, e287, hx287_0, hx287_1, hx287_2, hx287_3⟩ := at_T26 HR0.out x4_1 p287 q287; obtain rfl : ad280 = ad287 := (by injection e287); replace hx287_0 := (HB.out.cell (World.block_lt_of_cell? w _ hx287_0)).trans hx287_0; replace hx287_1 := (HB.out.cell (World.block_lt_of_cell? w _ hx287_1)).trans hx287_1; replace hx287_2 := (HB.out.cell (World.block_lt_of_cell? w _ hx287_2)).trans hx287_2; replace hx287_3 := (HB.out.cell (World.block_lt_of_cell? w _ hx287_3)).trans hx287_3; replace p287 := eq_true p287; replace q287 := eq_true q287) | ((with_reducible refine gate_callee (f := 14) rfl ?_); refine goesL_ (some 43) rfl rfl Tryd.func14 (by kernel_rfl) rfl #[.agg #[.int .i64 ((rd_T26 l0 x4_1).f0), .int .i64 ((rd_T26 l0 x4_1).f1), .string ((rd_T26 l0 x4_1).f2), .bool ((rd_T26 l0 x4_1).f3)]] rfl (by (try simp only [List.map_toArray, List.map_cons, List.map_nil]); first | done | rfl | (simp only [List.length_drop, List.length_take]; rfl)) ?_; (with_reducible refine (refrainref1_Show.calls k1 ((rd_T26 l0 x4_1).f0) ((rd_T26 l0 x4_1).f1) ((rd_T26 l0 x4_1).f2) ((rd_T26 l0 x4_1).f3) t288 t289 _ A10.out).mono ?_); rintro e w21 ⟨rfl, hb⟩; refine ⟨_, rfl, ?_⟩; have n0_ := Aside0.mk (below_step (by repeat (first | (with_reducible first | exact HB.out | apply below_alloc | apply pw_below_drewN | apply below_drew1) | exact HB.out)) hb); clear HB; have HB := n0_; clear n0_; (try clear hb); (try clear hb2); (try clear hk); (try clear hi)))
                  go_roundg k1
                  case measure => have := HK1.out; omega
                  case rel => exact ⟨(wrap64 (x4_1 + 1)), (by first | rfl | (simp; done) | (simp [*]; done) | (simp; unfold wrap64; omega)), H', ⟨by have := HK1.out; omega⟩, ⟨by repeat (first | (with_reducible first | exact HB.out | apply below_alloc | apply pw_below_drewN | apply below_drew1) | exact HB.out)⟩⟩
                · rw [if_neg c17] at H
                  have c17b0 : (t286 == t289) = false := beq_eq_false_iff_ne.mpr c17
                  have c17b1 : (t286 != t289) = true := bne_iff_ne.mpr c17
                  exact absurd ((Option.some.inj H).trans hr.out) Bool.false_ne_true
              · rw [if_neg c16] at H
                have c16b0 : (t285.toList == t288.toList) = false := beq_eq_false_iff_ne.mpr c16
                have c16b1 : (t285.toList != t288.toList) = true := bne_iff_ne.mpr c16
                exact absurd ((Option.some.inj H).trans hr.out) Bool.false_ne_true
          · rw [if_neg c6] at H
            exact absurd H (by simp)
        · rw [if_neg c5] at H
          have c5b0 : decide (x4_1 < (l0.length : Int)) = false := decide_eq_false c5
          clear c5
          obtain rfl := Option.some.inj H
          go_wp2
          go_ret
          exact ⟨by first | rfl | (simp [errW_none, errW_some] <;> rfl) | (simp [*, errW_none, errW_some] <;> rfl), by repeat (first | (with_reducible first | exact HB.out | apply below_alloc | apply pw_below_drewN | apply below_drew1) | exact HB.out)⟩
  · replace c3 := Bool.eq_false_iff.mpr c3
    subst c3
    have H1 : (some false) = some r := by rw [if_neg (show ¬ (false = true) by decide)] at H; exact H
    clear H
    have H := H1
    clear H1
    exact absurd ((Option.some.inj H).trans hr.out) Bool.false_ne_true

/-! ### refrainref1_guessed: function 36 -/
def refrainref1_guessed.l0 : Nat → ByteArray → Int → Int → Option (Int × Int × ByteArray × Bool)
  | 0, _, _, _ => none
  | k + 1, x0, x3, x4 => if x4 < (x0.size : Int) then (if 0 ≤ x4 then (if (bt x0 x4) ≥ 48 then (if (bt x0 x4) ≤ 57 then (refrainref1_guessed.l0 k x0 (IntKind.u64.wrap ((IntKind.u64.wrap (x3 * 10)) + (((bt x0 x4) - 48) % 256))) (wrap64 (x4 + 1))) else (refrainref1_guessed.l0 k x0 x3 (wrap64 (x4 + 1)))) else (refrainref1_guessed.l0 k x0 x3 (wrap64 (x4 + 1)))) else (none)) else (if (x0.size : Int) > 0 then (if 0 < (x0.size : Int) then (if (bt x0 0) = 45 then (some (1, wrap64 (IntKind.u64.wrap (-x3)), (⟨#[]⟩ : ByteArray), false)) else (some (1, wrap64 (x3), (⟨#[]⟩ : ByteArray), false))) else (none)) else (some (1, wrap64 (x3), (⟨#[]⟩ : ByteArray), false)))
def refrainref1_guessed.f (k : Nat) (a0 : ByteArray) : Option (Int × Int × ByteArray × Bool) := refrainref1_guessed.l0 k a0 0 0
set_option maxRecDepth 100000 in
theorem refrainref1_guessed.l0_zero : ∀ y0 y1 y2, refrainref1_guessed.l0 0 y0 y1 y2 = none := fun _ _ _ => rfl
set_option maxRecDepth 100000 in
theorem refrainref1_guessed.mono_l : ∀ k, (∀ y0 y1 y2, LeO (refrainref1_guessed.l0 k y0 y1 y2) (refrainref1_guessed.l0 (k + 1) y0 y1 y2))
  | 0 => fun _ _ _ r h => by (unfold refrainref1_guessed.l0 at h; cases h)
  | k + 1 => by
    have ih0 := refrainref1_guessed.mono_l k
    · intro y0 y1 y2
      unfold refrainref1_guessed.l0
      repeat' first
      | (with_reducible exact ih0 _ _ _)
      | (with_reducible exact LeO.refl _)
      | (with_reducible exact LeO.none _)
      | (with_reducible refine LeO.ite ?_ ?_)
      | (with_reducible refine LeO.bind ?_ (fun _ => ?_))
      | exact ih0 _ _ _
      | exact LeO.none _
      | refine LeO.ite ?_ ?_
      | refine LeO.bind ?_ (fun _ => ?_)
set_option maxRecDepth 100000 in
theorem refrainref1_guessed.mono : ∀ a0 k, LeO (refrainref1_guessed.f k a0) (refrainref1_guessed.f (k + 1) a0) := by
  intro a0 k
  have ih0 := refrainref1_guessed.mono_l k
  unfold refrainref1_guessed.f
  repeat' first
      | (with_reducible exact ih0 _ _ _)
      | (with_reducible exact LeO.refl _)
      | (with_reducible exact LeO.none _)
      | (with_reducible refine LeO.ite ?_ ?_)
      | (with_reducible refine LeO.bind ?_ (fun _ => ?_))
      | exact ih0 _ _ _
      | exact LeO.none _
      | refine LeO.ite ?_ ?_
      | refine LeO.bind ?_ (fun _ => ?_)
set_option maxHeartbeats 8000000 in
set_option maxRecDepth 100000 in
theorem refrainref1_guessed.calls (k : Nat) (a0 : ByteArray) (r1 : Int) (r2 : Int) (r3 : ByteArray) (r4 : Bool) (w : World) (h : refrainref1_guessed.f k a0 = some (r1, r2, r3, r4)) :
    Calls Tryd.prog 36 #[.string a0] w fun e w' => e = .returned (.agg #[.int .i64 r1, .int .i64 r2, .string r3, .bool r4]) ∧ Below w.heap.size w w' := by
  have hu26 := Tryd.underlying26
  have HB := Aside0.mk (Below.refl w.heap.size w)
  have H : (refrainref1_guessed.l0 k a0 0 0) = some (r1, r2, r3, r4) := h
  clear h
  have H' := Aside0.mk H
  clear H
  go_enter Tryd.func36, Tryd.ntmps36
  go_wp2_with (first | ((with_reducible refine gate_dst (N := 2) rfl ?_); refine box_event ?hg (N := 2) ?hd (cs := #[.int .i64 0, .int .i64 0, .string (⟨#[]⟩ : ByteArray), .bool false]) (t := 26) ?hr ?_; (case hd => rfl); (case hg => rfl); (case hr => first | (go_simp; done) | (go_simp; rfl)); intro gb290 hg w2 hbox hb; have n0_ := Aside0.mk (below_step (by repeat (first | (with_reducible first | exact HB.out | apply below_alloc | apply pw_below_drewN | apply below_drew1) | exact HB.out)) hb); have n1_ := Aside0.mk (hbox); have n2_ := Aside0.mk ((by rw [hg]; exact (below_size (by repeat (first | (with_reducible first | exact HB.out | apply below_alloc | apply pw_below_drewN | apply below_drew1) | exact HB.out))) : w.heap.size ≤ gb290)); have n3_ := Aside0.mk ((by rw [hg]; exact (below_size (by repeat (first | (with_reducible first | exact HB.out | apply below_alloc | apply pw_below_drewN | apply below_drew1) | exact HB.out))) : w.heap.size ≤ gb290)); clear HB; have HB := n0_; have BK290 := n1_; have GW290 := n2_; have GE290 := n3_; clear n0_ n1_ n2_ n3_; clear hb hbox hg))
  go_loopg [3, 4] k (fun kq v3 v4 w' => ∃ (x3_1 : Int) (x4_1 : Int), v3 = .int .u64 x3_1 ∧ v4 = .int .i64 x4_1 ∧ Aside0 (refrainref1_guessed.l0 kq a0 x3_1 x4_1 = some (r1, r2, r3, r4)) ∧ Aside0 (kq ≤ k) ∧ Aside0 (w'.heap[gb290]? = some (.cells #[.int .i64 0, .int .i64 0, .string (⟨#[]⟩ : ByteArray), .bool false] 26 (0, 0))) ∧ Aside0 (Below w.heap.size w w'))
  case atStart => exact ⟨(0), (0), (by first | rfl | (simp; done) | (simp [*]; done) | (simp; unfold wrap64; omega)), (by first | rfl | (simp; done) | (simp [*]; done) | (simp; unfold wrap64; omega)), H', ⟨Nat.le_refl _⟩, ⟨by (with_reducible repeat (first | refine blk_drewN ?_ _ | refine blk_drew ?_ | refine blk_alloc ?_ _)); exact BK290.out⟩, ⟨by repeat (first | (with_reducible first | exact HB.out | apply below_alloc | apply pw_below_drewN | apply below_drew1 | refine below_set ?_ GE290.out) | exact HB.out)⟩⟩
  case round =>
    clear H'
    try clear p2
    obtain ⟨x3_1, x4_1, rfl, rfl, HA, HK1, BK290, HB⟩ := hrel
    cases gk with
    | zero => (have HA2 := HA.out; clear HA; revert HA2; rw [refrainref1_guessed.l0_zero]; intro h_; cases h_)
    | succ k1 =>
      have H := HA.out
      clear HA
      simp only [refrainref1_guessed.l0] at H
      by_cases c3 : x4_1 < (a0.size : Int)
      · rw [if_pos c3] at H
        have c3b0 : decide (x4_1 < (a0.size : Int)) = true := decide_eq_true c3
        clear c3
        by_cases c4 : 0 ≤ x4_1
        · rw [if_pos c4] at H
          have c4b0 : decide (0 ≤ x4_1) = true := decide_eq_true c4
          clear c4
          by_cases c6 : (bt a0 x4_1) ≥ 48
          · rw [if_pos c6] at H
            have c6b0 : decide (48 ≤ (bt a0 x4_1)) = true := decide_eq_true c6
            clear c6
            by_cases c8 : (bt a0 x4_1) ≤ 57
            · rw [if_pos c8] at H
              have c8b0 : decide ((bt a0 x4_1) ≤ 57) = true := decide_eq_true c8
              clear c8
              have H' := Aside0.mk H
              clear H
              have p5 : 0 ≤ (x4_1 : Int) := of_decide_eq_true (by first | (with_reducible assumption) | assumption)
              have q5 : x4_1 < (a0.size : Int) := of_decide_eq_true (by first | (with_reducible assumption) | assumption)
              have hx5 := bt_at a0 x4_1
              replace p5 := eq_true p5
              replace q5 := eq_true q5
              have p7 : 0 ≤ (x4_1 : Int) := of_decide_eq_true (by first | (with_reducible assumption) | assumption)
              have q7 : x4_1 < (a0.size : Int) := of_decide_eq_true (by first | (with_reducible assumption) | assumption)
              have hx7 := bt_at a0 x4_1
              replace p7 := eq_true p7
              replace q7 := eq_true q7
              have p9 : 0 ≤ (x4_1 : Int) := of_decide_eq_true (by first | (with_reducible assumption) | assumption)
              have q9 : x4_1 < (a0.size : Int) := of_decide_eq_true (by first | (with_reducible assumption) | assumption)
              have hx9 := bt_at a0 x4_1
              replace p9 := eq_true p9
              replace q9 := eq_true q9
              go_wp2
              go_roundg k1
              case measure => have := HK1.out; omega
              case rel => exact ⟨(IntKind.u64.wrap ((IntKind.u64.wrap (x3_1 * 10)) + (((bt a0 x4_1) - 48) % 256))), (wrap64 (x4_1 + 1)), (by first | rfl | (simp; done) | (simp [*]; done) | (simp; unfold wrap64; omega)), (by first | rfl | (simp; done) | (simp [*]; done) | (simp; unfold wrap64; omega)), H', ⟨by have := HK1.out; omega⟩, ⟨by (with_reducible repeat (first | refine blk_drewN ?_ _ | refine blk_drew ?_ | refine blk_alloc ?_ _)); exact BK290.out⟩, ⟨by repeat (first | (with_reducible first | exact HB.out | apply below_alloc | apply pw_below_drewN | apply below_drew1 | refine below_set ?_ GE290.out) | exact HB.out)⟩⟩
            · rw [if_neg c8] at H
              have c8b0 : decide ((bt a0 x4_1) ≤ 57) = false := decide_eq_false c8
              clear c8
              have H' := Aside0.mk H
              clear H
              have p5 : 0 ≤ (x4_1 : Int) := of_decide_eq_true (by first | (with_reducible assumption) | assumption)
              have q5 : x4_1 < (a0.size : Int) := of_decide_eq_true (by first | (with_reducible assumption) | assumption)
              have hx5 := bt_at a0 x4_1
              replace p5 := eq_true p5
              replace q5 := eq_true q5
              have p7 : 0 ≤ (x4_1 : Int) := of_decide_eq_true (by first | (with_reducible assumption) | assumption)
              have q7 : x4_1 < (a0.size : Int) := of_decide_eq_true (by first | (with_reducible assumption) | assumption)
              have hx7 := bt_at a0 x4_1
              replace p7 := eq_true p7
              replace q7 := eq_true q7
              go_wp2
              go_roundg k1
              case measure => have := HK1.out; omega
              case rel => exact ⟨(x3_1), (wrap64 (x4_1 + 1)), (by first | rfl | (simp; done) | (simp [*]; done) | (simp; unfold wrap64; omega)), (by first | rfl | (simp; done) | (simp [*]; done) | (simp; unfold wrap64; omega)), H', ⟨by have := HK1.out; omega⟩, ⟨by (with_reducible repeat (first | refine blk_drewN ?_ _ | refine blk_drew ?_ | refine blk_alloc ?_ _)); exact BK290.out⟩, ⟨by repeat (first | (with_reducible first | exact HB.out | apply below_alloc | apply pw_below_drewN | apply below_drew1 | refine below_set ?_ GE290.out) | exact HB.out)⟩⟩
          · rw [if_neg c6] at H
            have c6b0 : decide (48 ≤ (bt a0 x4_1)) = false := decide_eq_false c6
            clear c6
            have H' := Aside0.mk H
            clear H
            have p5 : 0 ≤ (x4_1 : Int) := of_decide_eq_true (by first | (with_reducible assumption) | assumption)
            have q5 : x4_1 < (a0.size : Int) := of_decide_eq_true (by first | (with_reducible assumption) | assumption)
            have hx5 := bt_at a0 x4_1
            replace p5 := eq_true p5
            replace q5 := eq_true q5
            go_wp2
            go_roundg k1
            case measure => have := HK1.out; omega
            case rel => exact ⟨(x3_1), (wrap64 (x4_1 + 1)), (by first | rfl | (simp; done) | (simp [*]; done) | (simp; unfold wrap64; omega)), (by first | rfl | (simp; done) | (simp [*]; done) | (simp; unfold wrap64; omega)), H', ⟨by have := HK1.out; omega⟩, ⟨by (with_reducible repeat (first | refine blk_drewN ?_ _ | refine blk_drew ?_ | refine blk_alloc ?_ _)); exact BK290.out⟩, ⟨by repeat (first | (with_reducible first | exact HB.out | apply below_alloc | apply pw_below_drewN | apply below_drew1 | refine below_set ?_ GE290.out) | exact HB.out)⟩⟩
        · rw [if_neg c4] at H
          exact absurd H (by simp)
      · rw [if_neg c3] at H
        have c3b0 : decide (x4_1 < (a0.size : Int)) = false := decide_eq_false c3
        clear c3
        by_cases c10 : (a0.size : Int) > 0
        · rw [if_pos c10] at H
          have c10b0 : decide (0 < (a0.size : Int)) = true := decide_eq_true c10
          have c10b1 : decide (0 < a0.size) = true := decide_eq_true (by omega)
          clear c10
          by_cases c11 : 0 < (a0.size : Int)
          · rw [if_pos c11] at H
            have c11b0 : decide (0 < (a0.size : Int)) = true := decide_eq_true c11
            have c11b1 : decide (0 < a0.size) = true := decide_eq_true (by omega)
            clear c11
            by_cases c13 : (bt a0 0) = 45
            · rw [if_pos c13] at H
              have c13b0 : ((bt a0 0) == 45) = true := beq_iff_eq.mpr c13
              have c13b1 : ((bt a0 0) != 45) = false := bne_eq_false_iff_eq.mpr c13
              clear c13
              simp only [Option.some.injEq, Prod.mk.injEq] at H
              obtain ⟨rfl, rfl, rfl, rfl⟩ := H
              have p12 : 0 ≤ (0 : Int) := (by omega)
              have q12 : 0 < a0.size := (by have : (0 : Int) < (a0.size : Int) := of_decide_eq_true (by first | (with_reducible assumption) | assumption); omega)
              have hx12 : ∀ h : 0 < a0.size, ((a0[0]'h).toNat : Int) = bt a0 0 := bt_at a0 0
              clear p12
              have qi12 : (0 < (a0.size : Int)) = True := eq_true (of_decide_eq_true (by first | (with_reducible assumption) | assumption))
              replace q12 := eq_true q12
              have hcz14_0 : wr.cell? ⟨gb290, 0, none⟩ = some (.int .i64 0) := (blk_cell BK290.out 0).trans rfl
              have hcz14_1 : wr.cell? ⟨gb290, 1, none⟩ = some (.int .i64 0) := (blk_cell BK290.out 1).trans rfl
              have hcz14_2 : wr.cell? ⟨gb290, 2, none⟩ = some (.string (⟨#[]⟩ : ByteArray)) := (blk_cell BK290.out 2).trans rfl
              have hcz14_3 : wr.cell? ⟨gb290, 3, none⟩ = some (.bool false) := (blk_cell BK290.out 3).trans rfl
              have hfz14_0 := blk_frozen BK290.out 0
              have hfz14_1 := blk_frozen BK290.out 1
              have hfz14_2 := blk_frozen BK290.out 2
              have hfz14_3 := blk_frozen BK290.out 3
              go_wp2
              refine bodyPost_ret (results_cell_row rfl _ _ gb290 26 #[.int .i64 1, .int .i64 (wrap64 (IntKind.u64.wrap (-x3_1))), .string (⟨#[]⟩ : ByteArray), .bool false] (0, 0) _ rfl (by (with_reducible repeat (first | refine blk_drewN ?_ _ | refine blk_drew ?_ | refine blk_alloc ?_ _)); refine blk_put (cs := #[.int .i64 1, .int .i64 (wrap64 (IntKind.u64.wrap (-x3_1))), .string (⟨#[]⟩ : ByteArray), .bool false]) ?_ 3 _ rfl; (with_reducible repeat (first | refine blk_drewN ?_ _ | refine blk_drew ?_ | refine blk_alloc ?_ _)); refine blk_put (cs := #[.int .i64 1, .int .i64 (wrap64 (IntKind.u64.wrap (-x3_1))), .string (⟨#[]⟩ : ByteArray), .bool false]) ?_ 2 _ rfl; (with_reducible repeat (first | refine blk_drewN ?_ _ | refine blk_drew ?_ | refine blk_alloc ?_ _)); refine blk_put (cs := #[.int .i64 1, .int .i64 0, .string (⟨#[]⟩ : ByteArray), .bool false]) ?_ 1 _ rfl; (with_reducible repeat (first | refine blk_drewN ?_ _ | refine blk_drew ?_ | refine blk_alloc ?_ _)); refine blk_put (cs := #[.int .i64 0, .int .i64 0, .string (⟨#[]⟩ : ByteArray), .bool false]) ?_ 0 _ rfl; (with_reducible repeat (first | refine blk_drewN ?_ _ | refine blk_drew ?_ | refine blk_alloc ?_ _)); exact BK290.out) Tryd.underlying26 rfl (by kernel_rfl)) rfl ?_
              exact ⟨by first | rfl | (simp [errW_none, errW_some] <;> rfl) | (simp [*, errW_none, errW_some] <;> rfl), by repeat (first | (with_reducible first | exact HB.out | apply below_alloc | apply pw_below_drewN | apply below_drew1 | refine below_set ?_ GE290.out) | exact HB.out)⟩
            · rw [if_neg c13] at H
              have c13b0 : ((bt a0 0) == 45) = false := beq_eq_false_iff_ne.mpr c13
              have c13b1 : ((bt a0 0) != 45) = true := bne_iff_ne.mpr c13
              simp only [Option.some.injEq, Prod.mk.injEq] at H
              obtain ⟨rfl, rfl, rfl, rfl⟩ := H
              have p12 : 0 ≤ (0 : Int) := (by omega)
              have q12 : 0 < a0.size := (by have : (0 : Int) < (a0.size : Int) := of_decide_eq_true (by first | (with_reducible assumption) | assumption); omega)
              have hx12 : ∀ h : 0 < a0.size, ((a0[0]'h).toNat : Int) = bt a0 0 := bt_at a0 0
              clear p12
              have qi12 : (0 < (a0.size : Int)) = True := eq_true (of_decide_eq_true (by first | (with_reducible assumption) | assumption))
              replace q12 := eq_true q12
              have hcz15_0 : wr.cell? ⟨gb290, 0, none⟩ = some (.int .i64 0) := (blk_cell BK290.out 0).trans rfl
              have hcz15_1 : wr.cell? ⟨gb290, 1, none⟩ = some (.int .i64 0) := (blk_cell BK290.out 1).trans rfl
              have hcz15_2 : wr.cell? ⟨gb290, 2, none⟩ = some (.string (⟨#[]⟩ : ByteArray)) := (blk_cell BK290.out 2).trans rfl
              have hcz15_3 : wr.cell? ⟨gb290, 3, none⟩ = some (.bool false) := (blk_cell BK290.out 3).trans rfl
              have hfz15_0 := blk_frozen BK290.out 0
              have hfz15_1 := blk_frozen BK290.out 1
              have hfz15_2 := blk_frozen BK290.out 2
              have hfz15_3 := blk_frozen BK290.out 3
              go_wp2
              refine bodyPost_ret (results_cell_row rfl _ _ gb290 26 #[.int .i64 1, .int .i64 (wrap64 (x3_1)), .string (⟨#[]⟩ : ByteArray), .bool false] (0, 0) _ rfl (by (with_reducible repeat (first | refine blk_drewN ?_ _ | refine blk_drew ?_ | refine blk_alloc ?_ _)); refine blk_put (cs := #[.int .i64 1, .int .i64 (wrap64 (x3_1)), .string (⟨#[]⟩ : ByteArray), .bool false]) ?_ 3 _ rfl; (with_reducible repeat (first | refine blk_drewN ?_ _ | refine blk_drew ?_ | refine blk_alloc ?_ _)); refine blk_put (cs := #[.int .i64 1, .int .i64 (wrap64 (x3_1)), .string (⟨#[]⟩ : ByteArray), .bool false]) ?_ 2 _ rfl; (with_reducible repeat (first | refine blk_drewN ?_ _ | refine blk_drew ?_ | refine blk_alloc ?_ _)); refine blk_put (cs := #[.int .i64 1, .int .i64 0, .string (⟨#[]⟩ : ByteArray), .bool false]) ?_ 1 _ rfl; (with_reducible repeat (first | refine blk_drewN ?_ _ | refine blk_drew ?_ | refine blk_alloc ?_ _)); refine blk_put (cs := #[.int .i64 0, .int .i64 0, .string (⟨#[]⟩ : ByteArray), .bool false]) ?_ 0 _ rfl; (with_reducible repeat (first | refine blk_drewN ?_ _ | refine blk_drew ?_ | refine blk_alloc ?_ _)); exact BK290.out) Tryd.underlying26 rfl (by kernel_rfl)) rfl ?_
              exact ⟨by first | rfl | (simp [errW_none, errW_some] <;> rfl) | (simp [*, errW_none, errW_some] <;> rfl), by repeat (first | (with_reducible first | exact HB.out | apply below_alloc | apply pw_below_drewN | apply below_drew1 | refine below_set ?_ GE290.out) | exact HB.out)⟩
          · rw [if_neg c11] at H
            exact absurd H (by simp)
        · rw [if_neg c10] at H
          have c10b0 : decide (0 < (a0.size : Int)) = false := decide_eq_false c10
          have c10b1 : decide (0 < a0.size) = false := decide_eq_false (by omega)
          clear c10
          simp only [Option.some.injEq, Prod.mk.injEq] at H
          obtain ⟨rfl, rfl, rfl, rfl⟩ := H
          have hcz16_0 : wr.cell? ⟨gb290, 0, none⟩ = some (.int .i64 0) := (blk_cell BK290.out 0).trans rfl
          have hcz16_1 : wr.cell? ⟨gb290, 1, none⟩ = some (.int .i64 0) := (blk_cell BK290.out 1).trans rfl
          have hcz16_2 : wr.cell? ⟨gb290, 2, none⟩ = some (.string (⟨#[]⟩ : ByteArray)) := (blk_cell BK290.out 2).trans rfl
          have hcz16_3 : wr.cell? ⟨gb290, 3, none⟩ = some (.bool false) := (blk_cell BK290.out 3).trans rfl
          have hfz16_0 := blk_frozen BK290.out 0
          have hfz16_1 := blk_frozen BK290.out 1
          have hfz16_2 := blk_frozen BK290.out 2
          have hfz16_3 := blk_frozen BK290.out 3
          go_wp2
          refine bodyPost_ret (results_cell_row rfl _ _ gb290 26 #[.int .i64 1, .int .i64 (wrap64 (x3_1)), .string (⟨#[]⟩ : ByteArray), .bool false] (0, 0) _ rfl (by (with_reducible repeat (first | refine blk_drewN ?_ _ | refine blk_drew ?_ | refine blk_alloc ?_ _)); refine blk_put (cs := #[.int .i64 1, .int .i64 (wrap64 (x3_1)), .string (⟨#[]⟩ : ByteArray), .bool false]) ?_ 3 _ rfl; (with_reducible repeat (first | refine blk_drewN ?_ _ | refine blk_drew ?_ | refine blk_alloc ?_ _)); refine blk_put (cs := #[.int .i64 1, .int .i64 (wrap64 (x3_1)), .string (⟨#[]⟩ : ByteArray), .bool false]) ?_ 2 _ rfl; (with_reducible repeat (first | refine blk_drewN ?_ _ | refine blk_drew ?_ | refine blk_alloc ?_ _)); refine blk_put (cs := #[.int .i64 1, .int .i64 0, .string (⟨#[]⟩ : ByteArray), .bool false]) ?_ 1 _ rfl; (with_reducible repeat (first | refine blk_drewN ?_ _ | refine blk_drew ?_ | refine blk_alloc ?_ _)); refine blk_put (cs := #[.int .i64 0, .int .i64 0, .string (⟨#[]⟩ : ByteArray), .bool false]) ?_ 0 _ rfl; (with_reducible repeat (first | refine blk_drewN ?_ _ | refine blk_drew ?_ | refine blk_alloc ?_ _)); exact BK290.out) Tryd.underlying26 rfl (by kernel_rfl)) rfl ?_
          exact ⟨by first | rfl | (simp [errW_none, errW_some] <;> rfl) | (simp [*, errW_none, errW_some] <;> rfl), by repeat (first | (with_reducible first | exact HB.out | apply below_alloc | apply pw_below_drewN | apply below_drew1 | refine below_set ?_ GE290.out) | exact HB.out)⟩

/-! ### refrainref1_nibble: function 63 -/
def refrainref1_nibble.l0 : Nat → Int → Int → Option (Int)
  | 0, _, _ => none
  | k + 1, x0, x3 => if x3 < 16 then ((refrainref1_Hex.f x3).bind fun t291 => (if t291 = x0 then (some x3) else (refrainref1_nibble.l0 k x0 (wrap64 (x3 + 1))))) else (some 0)
def refrainref1_nibble.f (k : Nat) (a0 : Int) : Option (Int) := refrainref1_nibble.l0 k a0 0
set_option maxRecDepth 100000 in
theorem refrainref1_nibble.l0_zero : ∀ y0 y1, refrainref1_nibble.l0 0 y0 y1 = none := fun _ _ => rfl
set_option maxRecDepth 100000 in
theorem refrainref1_nibble.mono_l : ∀ k, (∀ y0 y1, LeO (refrainref1_nibble.l0 k y0 y1) (refrainref1_nibble.l0 (k + 1) y0 y1))
  | 0 => fun _ _ r h => by (unfold refrainref1_nibble.l0 at h; cases h)
  | k + 1 => by
    have ih0 := refrainref1_nibble.mono_l k
    · intro y0 y1
      unfold refrainref1_nibble.l0
      repeat' first
      | (with_reducible exact ih0 _ _)
      | (with_reducible exact LeO.refl _)
      | (with_reducible exact LeO.none _)
      | (with_reducible refine LeO.ite ?_ ?_)
      | (with_reducible refine LeO.bind ?_ (fun _ => ?_))
      | exact ih0 _ _
      | exact LeO.none _
      | refine LeO.ite ?_ ?_
      | refine LeO.bind ?_ (fun _ => ?_)
set_option maxRecDepth 100000 in
theorem refrainref1_nibble.mono : ∀ a0 k, LeO (refrainref1_nibble.f k a0) (refrainref1_nibble.f (k + 1) a0) := by
  intro a0 k
  have ih0 := refrainref1_nibble.mono_l k
  unfold refrainref1_nibble.f
  repeat' first
      | (with_reducible exact ih0 _ _)
      | (with_reducible exact LeO.refl _)
      | (with_reducible exact LeO.none _)
      | (with_reducible refine LeO.ite ?_ ?_)
      | (with_reducible refine LeO.bind ?_ (fun _ => ?_))
      | exact ih0 _ _
      | exact LeO.none _
      | refine LeO.ite ?_ ?_
      | refine LeO.bind ?_ (fun _ => ?_)
set_option maxHeartbeats 8000000 in
set_option maxRecDepth 100000 in
theorem refrainref1_nibble.calls (k : Nat) (a0 : Int) (r : Int) (w : World) (h : refrainref1_nibble.f k a0 = some r) :
    Calls Tryd.prog 63 #[.int .u8 a0] w fun e w' => e = .returned (.int .i64 r) ∧ Drawn0 w w' := by
  have H : (refrainref1_nibble.l0 k a0 0) = some r := h
  clear h
  have H' := Aside0.mk H
  clear H
  go_enter Tryd.func63, Tryd.ntmps63
  go_wp2
  go_loopg [3] k (fun kq v3 w' => ∃ (x3_1 : Int), v3 = .int .i64 x3_1 ∧ Aside0 (refrainref1_nibble.l0 kq a0 x3_1 = some r) ∧ Aside0 (kq ≤ k) ∧ Drawn0 w w')
  case atStart => exact ⟨(0), (by first | rfl | (simp; done) | (simp [*]; done) | (simp; unfold wrap64; omega)), H', ⟨Nat.le_refl _⟩, by repeat (first | exact Drawn0.refl _ | apply Drawn0.step)⟩
  case round =>
    clear H'
    obtain ⟨x3_1, rfl, HA, HK1, ⟨m1, rfl⟩⟩ := hrel
    cases gk with
    | zero => (have HA2 := HA.out; clear HA; revert HA2; rw [refrainref1_nibble.l0_zero]; intro h_; cases h_)
    | succ k1 =>
      have H := HA.out
      clear HA
      simp only [refrainref1_nibble.l0] at H
      by_cases c2 : x3_1 < 16
      · rw [if_pos c2] at H
        have c2b0 : decide (x3_1 < 16) = true := decide_eq_true c2
        clear c2
        replace H := Option.bind_eq_some_iff.mp H
        obtain ⟨t291, A30, H⟩ := H
        replace H : (if t291 = a0 then (some x3_1) else (refrainref1_nibble.l0 k1 a0 (wrap64 (x3_1 + 1)))) = some r := H
        have A3 := Aside0.mk A30
        clear A30
        by_cases c4 : t291 = a0
        · rw [if_pos c4] at H
          have c4b0 : (t291 == a0) = true := beq_iff_eq.mpr c4
          have c4b1 : (t291 != a0) = false := bne_eq_false_iff_eq.mpr c4
          clear c4
          obtain rfl := Option.some.inj H
          go_wp2_with (first | ((with_reducible refine gate_callee (f := 59) rfl ?_); refine goesL_ (some 9) rfl rfl Tryd.func59 (by kernel_rfl) rfl #[.int .i64 x3_1] rfl (by (try simp only [List.map_toArray, List.map_cons, List.map_nil]); first | done | rfl | (simp only [List.length_drop, List.length_take]; rfl)) ?_; (with_reducible refine (refrainref1_Hex.calls x3_1 t291 _ A3.out).mono ?_); rintro e w' ⟨rfl, ⟨nd, rfl⟩⟩; refine ⟨_, rfl, ?_⟩))
          go_ret
          exact ⟨by first | rfl | (simp; done) | (simp [*]; done) | (simp; unfold wrap64; omega), by repeat (first | exact Drawn0.refl _ | apply Drawn0.step)⟩
        · rw [if_neg c4] at H
          have c4b0 : (t291 == a0) = false := beq_eq_false_iff_ne.mpr c4
          have c4b1 : (t291 != a0) = true := bne_iff_ne.mpr c4
          have H' := Aside0.mk H
          clear H
          go_wp2_with (first | ((with_reducible refine gate_callee (f := 59) rfl ?_); refine goesL_ (some 9) rfl rfl Tryd.func59 (by kernel_rfl) rfl #[.int .i64 x3_1] rfl (by (try simp only [List.map_toArray, List.map_cons, List.map_nil]); first | done | rfl | (simp only [List.length_drop, List.length_take]; rfl)) ?_; (with_reducible refine (refrainref1_Hex.calls x3_1 t291 _ A3.out).mono ?_); rintro e w' ⟨rfl, ⟨nd, rfl⟩⟩; refine ⟨_, rfl, ?_⟩))
          go_roundg k1
          case measure => have := HK1.out; omega
          case rel => exact ⟨(wrap64 (x3_1 + 1)), (by first | rfl | (simp; done) | (simp [*]; done) | (simp; unfold wrap64; omega)), H', ⟨by have := HK1.out; omega⟩, by repeat (first | exact Drawn0.refl _ | apply Drawn0.step)⟩
      · rw [if_neg c2] at H
        have c2b0 : decide (x3_1 < 16) = false := decide_eq_false c2
        clear c2
        obtain rfl := Option.some.inj H
        go_wp2
        go_ret
        exact ⟨by first | rfl | (simp; done) | (simp [*]; done) | (simp; unfold wrap64; omega), by repeat (first | exact Drawn0.refl _ | apply Drawn0.step)⟩

end Go.Proofs.YthhpeeckiggpaaaDoor.Pr

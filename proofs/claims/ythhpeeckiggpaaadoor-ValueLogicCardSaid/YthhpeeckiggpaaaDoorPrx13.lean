-- printed by a patched copy of the kit's print, for this seat
import Derived.Test.YthhpeeckiggpaaaDoorPrx0
import Derived.Test.YthhpeeckiggpaaaDoorPrx1
import Derived.Test.YthhpeeckiggpaaaDoorPrx2
import Derived.Test.YthhpeeckiggpaaaDoorPrx5
import Derived.Test.YthhpeeckiggpaaaDoorPrx8
import Derived.Test.YthhpeeckiggpaaaDoorExtV1
namespace Go.Proofs.YthhpeeckiggpaaaDoor.Pr
open Go.RowKit Go.Proofs.YthhpeeckiggpaaaDoorW.PrintWords Go.Proofs.YthhpeeckiggpaaaDoorW.PrintLast Go.Proofs.YthhpeeckiggpaaaDoorW.PrintMore
attribute [local go_sem] max2_int min2_int max_two min_two max_three min_three max_four min_four   -- for this text's walks alone
attribute [local go_sem high] Go.Proofs.YthhpeeckiggpaaaDoor.isSome_setCell
set_option maxRecDepth 100000
set_option linter.unusedVariables false
set_option linter.unusedSimpArgs false

attribute [local go_sem high] eqA26
/-! ### refrainlaw1_ValueRound: function 5 -/
mutual
def refrainlaw1_ValueRound.l0 : Nat → List (S26) → List ByteArray → Int → Option (Bool)
  | 0, _, _, _ => none
  | k + 1, x0, x1, x6 => if x6 < (x0.length : Int) then (if 0 ≤ x6 then ((value_Show.f ((rd_T26 x0 x6).f0) ((rd_T26 x0 x6).f1) ((rd_T26 x0 x6).f2) ((rd_T26 x0 x6).f3)).bind fun bt345 => ((value_Valid.f ((rd_T26 x0 x6).f0) ((rd_T26 x0 x6).f1) ((rd_T26 x0 x6).f2) ((rd_T26 x0 x6).f3)).bind fun t348 => (if (t348 != (bt345.2 == 0)) = true then (some false) else (if t348 = true then ((value_Read.f k bt345.1).bind fun bt349 => (if bt349.2.2.2.2 = 0 then (if (!(bt349.1 == ((rd_T26 x0 x6).f0)) || (!(bt349.2.1 == ((rd_T26 x0 x6).f1)) || (!(bt349.2.2.1.toList == (((rd_T26 x0 x6).f2).toList)) || (!(bt349.2.2.2.1 == ((rd_T26 x0 x6).f3)))))) = true then (some false) else (refrainlaw1_ValueRound.l0 k x0 x1 (wrap64 (x6 + 1)))) else (some false))) else (refrainlaw1_ValueRound.l0 k x0 x1 (wrap64 (x6 + 1))))))) else (none)) else (refrainlaw1_ValueRound.l1 k x1 0)
def refrainlaw1_ValueRound.l1 : Nat → List ByteArray → Int → Option (Bool)
  | 0, _, _ => none
  | k + 1, x1, x12 => if x12 < (x1.length : Int) then (if 0 ≤ x12 then ((value_Read.f k (rdOf ByteArray.empty x1 x12)).bind fun bt357 => (if bt357.2.2.2.2 = 0 then ((value_Show.f bt357.1 bt357.2.1 bt357.2.2.1 bt357.2.2.2.1).bind fun bt363 => (if bt363.2 = 0 then (if bt363.1.toList = (rdOf ByteArray.empty x1 x12).toList then (refrainlaw1_ValueRound.l1 k x1 (wrap64 (x12 + 1))) else (some false)) else (some false))) else (refrainlaw1_ValueRound.l1 k x1 (wrap64 (x12 + 1))))) else (none)) else (some true)
end
def refrainlaw1_ValueRound.f (k : Nat) (l0 : List (S26)) (l1 : List ByteArray) : Option (Bool) := (refrainlaw1_begun.f k).bind fun t343 => (if t343 = true then (refrainlaw1_ValueRound.l0 k l0 l1 0) else (some false))
set_option maxRecDepth 100000 in
theorem refrainlaw1_ValueRound.l0_zero : ∀ y0 y1 y2, refrainlaw1_ValueRound.l0 0 y0 y1 y2 = none := fun _ _ _ => rfl
set_option maxRecDepth 100000 in
theorem refrainlaw1_ValueRound.l1_zero : ∀ y0 y1, refrainlaw1_ValueRound.l1 0 y0 y1 = none := fun _ _ => rfl
set_option maxRecDepth 100000 in
theorem refrainlaw1_ValueRound.mono_l : ∀ k, (∀ y0 y1 y2, LeO (refrainlaw1_ValueRound.l0 k y0 y1 y2) (refrainlaw1_ValueRound.l0 (k + 1) y0 y1 y2)) ∧ (∀ y0 y1, LeO (refrainlaw1_ValueRound.l1 k y0 y1) (refrainlaw1_ValueRound.l1 (k + 1) y0 y1))
  | 0 => ⟨fun _ _ _ r h => by (unfold refrainlaw1_ValueRound.l0 at h; cases h), fun _ _ r h => by (unfold refrainlaw1_ValueRound.l1 at h; cases h)⟩
  | k + 1 => by
    obtain ⟨ih0, ih1⟩ := refrainlaw1_ValueRound.mono_l k
    refine ⟨?_, ?_⟩
    · intro y0 y1 y2
      unfold refrainlaw1_ValueRound.l0
      repeat' first
      | (with_reducible exact ih0 _ _ _)
      | (with_reducible exact ih1 _ _)
      | (with_reducible exact refrainlaw1_begun.mono _)
      | (with_reducible exact value_Read.mono _ _)
      | (with_reducible exact LeO.refl _)
      | (with_reducible exact LeO.none _)
      | (with_reducible refine LeO.ite ?_ ?_)
      | (with_reducible refine LeO.bind ?_ (fun _ => ?_))
      | exact ih0 _ _ _
      | exact ih1 _ _
      | exact refrainlaw1_begun.mono _
      | exact value_Read.mono _ _
      | exact LeO.none _
      | refine LeO.ite ?_ ?_
      | refine LeO.bind ?_ (fun _ => ?_)
    · intro y0 y1
      unfold refrainlaw1_ValueRound.l1
      repeat' first
      | (with_reducible exact ih0 _ _ _)
      | (with_reducible exact ih1 _ _)
      | (with_reducible exact refrainlaw1_begun.mono _)
      | (with_reducible exact value_Read.mono _ _)
      | (with_reducible exact LeO.refl _)
      | (with_reducible exact LeO.none _)
      | (with_reducible refine LeO.ite ?_ ?_)
      | (with_reducible refine LeO.bind ?_ (fun _ => ?_))
      | exact ih0 _ _ _
      | exact ih1 _ _
      | exact refrainlaw1_begun.mono _
      | exact value_Read.mono _ _
      | exact LeO.none _
      | refine LeO.ite ?_ ?_
      | refine LeO.bind ?_ (fun _ => ?_)
set_option maxRecDepth 100000 in
theorem refrainlaw1_ValueRound.mono : ∀ a0 a1 k, LeO (refrainlaw1_ValueRound.f k a0 a1) (refrainlaw1_ValueRound.f (k + 1) a0 a1) := by
  intro a0 a1 k
  obtain ⟨ih0, ih1⟩ := refrainlaw1_ValueRound.mono_l k
  unfold refrainlaw1_ValueRound.f
  repeat' first
      | (with_reducible exact ih0 _ _ _)
      | (with_reducible exact ih1 _ _)
      | (with_reducible exact refrainlaw1_begun.mono _)
      | (with_reducible exact value_Read.mono _ _)
      | (with_reducible exact LeO.refl _)
      | (with_reducible exact LeO.none _)
      | (with_reducible refine LeO.ite ?_ ?_)
      | (with_reducible refine LeO.bind ?_ (fun _ => ?_))
      | exact ih0 _ _ _
      | exact ih1 _ _
      | exact refrainlaw1_begun.mono _
      | exact value_Read.mono _ _
      | exact LeO.none _
      | refine LeO.ite ?_ ?_
      | refine LeO.bind ?_ (fun _ => ?_)
set_option maxHeartbeats 8000000 in
set_option maxRecDepth 100000 in
theorem refrainlaw1_ValueRound.calls (k : Nat) (A0 : Option Addr) (c0 : Nat) (l0 : List (S26)) (A1 : Option Addr) (c1 : Nat) (l1 : List ByteArray) (r : Bool) (w : World) (hr0 : Kd.C k26 w A0 l0.length l0) (hc0 : l0.length ≤ c0) (hr1 : Kd.C Kd.string w A1 l1.length l1) (hc1 : l1.length ≤ c1) (HL_LErr : Aside0 (LErr w)) (HL_LG0 : Aside0 (LG0 w)) (HL_LG1 : Aside0 (LG1 w)) (HL_LSyn : Aside0 (LSyn w)) (h : refrainlaw1_ValueRound.f k l0 l1 = some r) (hr : r = true) :
    Calls Tryd.prog 5 #[.slice A0 l0.length c0, .slice A1 l1.length c1] w fun e w' => e = .returned (.bool r) ∧ Below w.heap.size w w' := by
  replace hr := Aside0.mk hr
  have hu26 := Tryd.underlying26
  have HR0 := Aside0.mk hr0
  have HC0 := Aside0.mk hc0
  clear hr0 hc0
  have HR1 := Aside0.mk hr1
  have HC1 := Aside0.mk hc1
  clear hr1 hc1
  have HB := Aside0.mk (Below.refl w.heap.size w)
  have H : ((refrainlaw1_begun.f k).bind fun t343 => (if t343 = true then (refrainlaw1_ValueRound.l0 k l0 l1 0) else (some false))) = some r := h
  clear h
  replace H := Option.bind_eq_some_iff.mp H
  obtain ⟨t343, A30, H⟩ := H
  replace H : (if t343 = true then (refrainlaw1_ValueRound.l0 k l0 l1 0) else (some false)) = some r := H
  have A3 := Aside0.mk A30
  clear A30
  by_cases c4 : t343 = true
  · subst c4
    have H1 : (refrainlaw1_ValueRound.l0 k l0 l1 0) = some r := by rw [if_pos rfl] at H; exact H
    clear H
    have H := H1
    clear H1
    have H' := Aside0.mk H
    clear H
    go_enter Tryd.func5, Tryd.ntmps5
    go_wp2_with (first | (go_at_call 10; (with_reducible refine (refrainlaw1_begun.calls k  true _ ?side1 ?side2 ?side3 ?side4 A3.out (by first | rfl | exact hr.out)).mono ?_); (case side1 => first | (with_reducible exact HL_LErr) | exact ⟨LErr.below HL_LErr.out (hbT HB.out)⟩); (case side2 => first | (with_reducible exact HL_LG0) | exact ⟨LG0.below HL_LG0.out (hbT HB.out)⟩); (case side3 => first | (with_reducible exact HL_LG1) | exact ⟨LG1.below HL_LG1.out (hbT HB.out)⟩); (case side4 => first | (with_reducible exact HL_LSyn) | exact ⟨LSyn.below HL_LSyn.out (hbT HB.out)⟩); rintro e w5 ⟨rfl, hb⟩; replace HB := bsA HB hb; (try clear hb); (try clear hb2); (try clear hk); (try clear hi)))
    repeat (go_quiet (first | (go_at_call 10; (with_reducible refine (refrainlaw1_begun.calls k  true _ ?side1 ?side2 ?side3 ?side4 A3.out (by first | rfl | exact hr.out)).mono ?_); (case side1 => first | (with_reducible exact HL_LErr) | exact ⟨LErr.below HL_LErr.out (hbT HB.out)⟩); (case side2 => first | (with_reducible exact HL_LG0) | exact ⟨LG0.below HL_LG0.out (hbT HB.out)⟩); (case side3 => first | (with_reducible exact HL_LG1) | exact ⟨LG1.below HL_LG1.out (hbT HB.out)⟩); (case side4 => first | (with_reducible exact HL_LSyn) | exact ⟨LSyn.below HL_LSyn.out (hbT HB.out)⟩); rintro e w5 ⟨rfl, hb⟩; replace HB := bsA HB hb; (try clear hb); (try clear hb2); (try clear hk); (try clear hi))); try go_wp2_with (first | (go_at_call 10; (with_reducible refine (refrainlaw1_begun.calls k  true _ ?side1 ?side2 ?side3 ?side4 A3.out (by first | rfl | exact hr.out)).mono ?_); (case side1 => first | (with_reducible exact HL_LErr) | exact ⟨LErr.below HL_LErr.out (hbT HB.out)⟩); (case side2 => first | (with_reducible exact HL_LG0) | exact ⟨LG0.below HL_LG0.out (hbT HB.out)⟩); (case side3 => first | (with_reducible exact HL_LG1) | exact ⟨LG1.below HL_LG1.out (hbT HB.out)⟩); (case side4 => first | (with_reducible exact HL_LSyn) | exact ⟨LSyn.below HL_LSyn.out (hbT HB.out)⟩); rintro e w5 ⟨rfl, hb⟩; replace HB := bsA HB hb; (try clear hb); (try clear hb2); (try clear hk); (try clear hi))))
    go_loopg [6] k (fun kq v6 w' => ∃ (x6_1 : Int), v6 = .int .i64 x6_1 ∧ Aside0 (refrainlaw1_ValueRound.l0 kq l0 l1 x6_1 = some r) ∧ Aside0 (kq ≤ k) ∧ Aside0 (Below w.heap.size w w'))
    case atStart => exact ⟨(0), (by first | rfl | (simp; done) | (simp [*]; done) | (simp; unfold wrap64; omega) | (congr 1; (try rw [Bool.eq_iff_iff]); simp [List.isEmpty_iff]; done)), H', ⟨Nat.le_refl _⟩, ⟨hbT HB.out⟩⟩
    case round =>
      clear H'
      try clear c1
      try clear p2
      try clear c4
      try clear c5
      obtain ⟨x6_1, rfl, HA, HK1, HB⟩ := hrel
      cases gk with
      | zero => (have HA2 := HA.out; clear HA; revert HA2; rw [refrainlaw1_ValueRound.l0_zero]; intro h_; cases h_)
      | succ k1 =>
        have H := HA.out
        clear HA
        simp only [refrainlaw1_ValueRound.l0] at H
        by_cases c6 : x6_1 < (l0.length : Int)
        · rw [if_pos c6] at H
          have c6b0 : decide (x6_1 < (l0.length : Int)) = true := decide_eq_true c6
          clear c6
          by_cases c7 : 0 ≤ x6_1
          · rw [if_pos c7] at H
            have c7b0 : decide (0 ≤ x6_1) = true := decide_eq_true c7
            clear c7
            replace H := Option.bind_eq_some_iff.mp H
            obtain ⟨⟨t345, t346⟩, A80, H⟩ := H
            replace H : ((value_Valid.f ((rd_T26 l0 x6_1).f0) ((rd_T26 l0 x6_1).f1) ((rd_T26 l0 x6_1).f2) ((rd_T26 l0 x6_1).f3)).bind fun t348 => (if (t348 != (t346 == 0)) = true then (some false) else (if t348 = true then ((value_Read.f k1 t345).bind fun bt349 => (if bt349.2.2.2.2 = 0 then (if (!(bt349.1 == ((rd_T26 l0 x6_1).f0)) || (!(bt349.2.1 == ((rd_T26 l0 x6_1).f1)) || (!(bt349.2.2.1.toList == (((rd_T26 l0 x6_1).f2).toList)) || (!(bt349.2.2.2.1 == ((rd_T26 l0 x6_1).f3)))))) = true then (some false) else (refrainlaw1_ValueRound.l0 k1 l0 l1 (wrap64 (x6_1 + 1)))) else (some false))) else (refrainlaw1_ValueRound.l0 k1 l0 l1 (wrap64 (x6_1 + 1)))))) = some r := H
            have A8 := Aside0.mk A80
            clear A80
            replace H := Option.bind_eq_some_iff.mp H
            obtain ⟨t348, A90, H⟩ := H
            replace H : (if (t348 != (t346 == 0)) = true then (some false) else (if t348 = true then ((value_Read.f k1 t345).bind fun bt349 => (if bt349.2.2.2.2 = 0 then (if (!(bt349.1 == ((rd_T26 l0 x6_1).f0)) || (!(bt349.2.1 == ((rd_T26 l0 x6_1).f1)) || (!(bt349.2.2.1.toList == (((rd_T26 l0 x6_1).f2).toList)) || (!(bt349.2.2.2.1 == ((rd_T26 l0 x6_1).f3)))))) = true then (some false) else (refrainlaw1_ValueRound.l0 k1 l0 l1 (wrap64 (x6_1 + 1)))) else (some false))) else (refrainlaw1_ValueRound.l0 k1 l0 l1 (wrap64 (x6_1 + 1))))) = some r := H
            have A9 := Aside0.mk A90
            clear A90
            by_cases c10 : (t348 != (t346 == 0)) = true
            · rw [if_pos c10] at H
              have c10b0 : (t348 != (t346 == 0)) = true := c10
              (try (have c10b1 : decide (t348 = (t346 == 0)) = false := by simpa using c10))
              (try (have c10b2 : (t348 == (t346 == 0)) = false := by simpa using c10))
              (try (have c10b3 : ¬ (t348 = (t346 == 0)) := by simpa using c10))
              clear c10
              exact absurd ((Option.some.inj H).trans hr.out) Bool.false_ne_true
            · rw [if_neg c10] at H
              have c10b0 : (t348 != (t346 == 0)) = false := by simpa using c10
              (try (have c10b1 : decide (t348 = (t346 == 0)) = true := by simpa using c10))
              (try (have c10b2 : (t348 == (t346 == 0)) = true := by simpa using c10))
              clear c10
              by_cases c13 : t348 = true
              · subst c13
                have H1 : ((value_Read.f k1 t345).bind fun bt349 => (if bt349.2.2.2.2 = 0 then (if (!(bt349.1 == ((rd_T26 l0 x6_1).f0)) || (!(bt349.2.1 == ((rd_T26 l0 x6_1).f1)) || (!(bt349.2.2.1.toList == (((rd_T26 l0 x6_1).f2).toList)) || (!(bt349.2.2.2.1 == ((rd_T26 l0 x6_1).f3)))))) = true then (some false) else (refrainlaw1_ValueRound.l0 k1 l0 l1 (wrap64 (x6_1 + 1)))) else (some false))) = some r := by rw [if_pos rfl] at H; exact H
                clear H
                have H := H1
                clear H1
                replace H := Option.bind_eq_some_iff.mp H
                obtain ⟨⟨t349, t350, t351, t352, t353⟩, A140, H⟩ := H
                replace H : (if t353 = 0 then (if (!(t349 == ((rd_T26 l0 x6_1).f0)) || (!(t350 == ((rd_T26 l0 x6_1).f1)) || (!(t351.toList == (((rd_T26 l0 x6_1).f2).toList)) || (!(t352 == ((rd_T26 l0 x6_1).f3)))))) = true then (some false) else (refrainlaw1_ValueRound.l0 k1 l0 l1 (wrap64 (x6_1 + 1)))) else (some false)) = some r := H
                have A14 := Aside0.mk A140
                clear A140
                by_cases c15 : t353 = 0
                · rw [if_pos c15] at H
                  have c15b0 : (t353 == 0) = true := beq_iff_eq.mpr c15
                  have c15b1 : (t353 != 0) = false := bne_eq_false_iff_eq.mpr c15
                  clear c15
                  by_cases c16 : (!(t349 == ((rd_T26 l0 x6_1).f0)) || (!(t350 == ((rd_T26 l0 x6_1).f1)) || (!(t351.toList == (((rd_T26 l0 x6_1).f2).toList)) || (!(t352 == ((rd_T26 l0 x6_1).f3)))))) = true
                  · rw [if_pos c16] at H
                    have c16b0 : (!(t349 == ((rd_T26 l0 x6_1).f0)) || (!(t350 == ((rd_T26 l0 x6_1).f1)) || (!(t351.toList == (((rd_T26 l0 x6_1).f2).toList)) || (!(t352 == ((rd_T26 l0 x6_1).f3)))))) = true := c16
                    clear c16
                    exact absurd ((Option.some.inj H).trans hr.out) Bool.false_ne_true
                  · rw [if_neg c16] at H
                    have c16b0 : (!(t349 == ((rd_T26 l0 x6_1).f0)) || (!(t350 == ((rd_T26 l0 x6_1).f1)) || (!(t351.toList == (((rd_T26 l0 x6_1).f2).toList)) || (!(t352 == ((rd_T26 l0 x6_1).f3)))))) = false := by simpa using c16
                    clear c16
                    have H' := Aside0.mk H
                    clear H
                    have p344 : 0 ≤ (x6_1 : Int) := of_decide_eq_true (by first | (with_reducible assumption) | assumption)
                    have q344 : x6_1 < (l0.length : Int) := of_decide_eq_true (by first | (with_reducible assumption) | assumption)
                    obtain ⟨ad344, e344, hx344_0, hx344_1, hx344_2, hx344_3⟩ := at_T26 HR0.out x6_1 p344 q344
                    cases e344
                    replace hx344_0 := (HB.out.cell (World.block_lt_of_cell? w _ hx344_0)).trans hx344_0; replace hx344_1 := (HB.out.cell (World.block_lt_of_cell? w _ hx344_1)).trans hx344_1; replace hx344_2 := (HB.out.cell (World.block_lt_of_cell? w _ hx344_2)).trans hx344_2; replace hx344_3 := (HB.out.cell (World.block_lt_of_cell? w _ hx344_3)).trans hx344_3
                    replace p344 := eq_true p344
                    replace q344 := eq_true q344
                    go_wp2_with (first | (go_at_call 13; (with_reducible refine (value_Show.calls ((rd_T26 l0 x6_1).f0) ((rd_T26 l0 x6_1).f1) ((rd_T26 l0 x6_1).f2) ((rd_T26 l0 x6_1).f3) t345 t346 _ ?side1 A8.out).mono ?_); (case side1 => first | (with_reducible exact HL_LG1) | exact ⟨LG1.below HL_LG1.out (hbT HB.out)⟩); rintro e w22 ⟨rfl, hb⟩; replace HB := bsA HB hb; (try clear hb); (try clear hb2); (try clear hk); (try clear hi); have p347 : 0 ≤ (x6_1 : Int) := of_decide_eq_true (by first | (with_reducible assumption) | assumption); have q347 : x6_1 < (l0.length : Int) := of_decide_eq_true (by first | (with_reducible assumption) | assumption); obtain ⟨ad347, e347, hx347_0, hx347_1, hx347_2, hx347_3⟩ := at_T26 HR0.out x6_1 p347 q347; obtain rfl : ad344 = ad347 := (by injection e347); replace hx347_0 := (HB.out.cell (World.block_lt_of_cell? w _ hx347_0)).trans hx347_0; replace hx347_1 := (HB.out.cell (World.block_lt_of_cell? w _ hx347_1)).trans hx347_1; replace hx347_2 := (HB.out.cell (World.block_lt_of_cell? w _ hx347_2)).trans hx347_2; replace hx347_3 := (HB.out.cell (World.block_lt_of_cell? w _ hx347_3)).trans hx347_3; replace p347 := eq_true p347; replace q347 := eq_true q347) | (go_at_call 11; (with_reducible refine (value_Valid.calls ((rd_T26 l0 x6_1).f0) ((rd_T26 l0 x6_1).f1) ((rd_T26 l0 x6_1).f2) ((rd_T26 l0 x6_1).f3) true _ A9.out).mono ?_); rintro e w23 ⟨rfl, hb⟩; replace HB := bsA HB hb; (try clear hb); (try clear hb2); (try clear hk); (try clear hi)) | (go_at_call 15; (with_reducible refine (value_Read.calls k1 t345 t349 t350 t351 t352 t353 _ ?side1 ?side2 ?side3 A14.out).mono ?_); (case side1 => first | (with_reducible exact HL_LErr) | exact ⟨LErr.below HL_LErr.out (hbT HB.out)⟩); (case side2 => first | (with_reducible exact HL_LG1) | exact ⟨LG1.below HL_LG1.out (hbT HB.out)⟩); (case side3 => first | (with_reducible exact HL_LSyn) | exact ⟨LSyn.below HL_LSyn.out (hbT HB.out)⟩); rintro e w24 ⟨rfl, hb⟩; replace HB := bsA HB hb; (try clear hb); (try clear hb2); (try clear hk); (try clear hi)) | ((with_reducible refine gate_dst (N := 10) rfl ?_); refine box_event ?hg (N := 10) ?hd (cs := #[.int .i64 0, .int .i64 0, .string (⟨#[]⟩ : ByteArray), .bool false]) (t := 26) ?hr ?_; (case hd => rfl); (case hg => rfl); (case hr => first | (go_simp; done) | (go_simp; rfl)); intro gb354 hg w25 hbox hb; have BK354 := Aside0.mk hbox; have GW354 := geA hg HB; have GE354 := geA hg HB; replace HB := bsA HB hb; clear hb hbox hg; have hcz26_0 : w25.cell? ⟨gb354, 0, none⟩ = some (.int .i64 0) := (blk_cell BK354.out 0).trans rfl; have hcz26_1 : w25.cell? ⟨gb354, 1, none⟩ = some (.int .i64 0) := (blk_cell BK354.out 1).trans rfl; have hcz26_2 : w25.cell? ⟨gb354, 2, none⟩ = some (.string (⟨#[]⟩ : ByteArray)) := (blk_cell BK354.out 2).trans rfl; have hcz26_3 : w25.cell? ⟨gb354, 3, none⟩ = some (.bool false) := (blk_cell BK354.out 3).trans rfl; have hfz26_0 := blk_frozen BK354.out 0; have hfz26_1 := blk_frozen BK354.out 1; have hfz26_2 := blk_frozen BK354.out 2; have hfz26_3 := blk_frozen BK354.out 3; have p355 : 0 ≤ (x6_1 : Int) := of_decide_eq_true (by first | (with_reducible assumption) | assumption); have q355 : x6_1 < (l0.length : Int) := of_decide_eq_true (by first | (with_reducible assumption) | assumption); obtain ⟨ad355, e355, hx355_0, hx355_1, hx355_2, hx355_3⟩ := at_T26 HR0.out x6_1 p355 q355; obtain rfl : ad344 = ad355 := (by injection e355); have hn355_0 : ad344.block ≠ gb354 := Nat.ne_of_lt (Nat.lt_of_lt_of_le (by have := World.block_lt_of_cell? _ _ hx355_0; first | rwa [add_block] at this | exact this) GW354.out); have hn355_1 : ad344.block ≠ gb354 := Nat.ne_of_lt (Nat.lt_of_lt_of_le (by have := World.block_lt_of_cell? _ _ hx355_0; first | rwa [add_block] at this | exact this) GW354.out); have hn355_2 : ad344.block ≠ gb354 := Nat.ne_of_lt (Nat.lt_of_lt_of_le (by have := World.block_lt_of_cell? _ _ hx355_0; first | rwa [add_block] at this | exact this) GW354.out); have hn355_3 : ad344.block ≠ gb354 := Nat.ne_of_lt (Nat.lt_of_lt_of_le (by have := World.block_lt_of_cell? _ _ hx355_0; first | rwa [add_block] at this | exact this) GW354.out); replace hx355_0 := (HB.out.cell (World.block_lt_of_cell? w _ hx355_0)).trans hx355_0; replace hx355_1 := (HB.out.cell (World.block_lt_of_cell? w _ hx355_1)).trans hx355_1; replace hx355_2 := (HB.out.cell (World.block_lt_of_cell? w _ hx355_2)).trans hx355_2; replace hx355_3 := (HB.out.cell (World.block_lt_of_cell? w _ hx355_3)).trans hx355_3; replace hx355_0 := (cell_far (p := ⟨gb354, 0, none⟩) (by first | (rw [add_block]; exact hn355_0) | (show (Addr.add _ _).block ≠ _; rw [add_block]; exact hn355_0) | exact hn355_0) (.int .i64 t349)).trans hx355_0; replace hx355_1 := (cell_far (p := ⟨gb354, 0, none⟩) (by first | (rw [add_block]; exact hn355_0) | (show (Addr.add _ _).block ≠ _; rw [add_block]; exact hn355_0) | exact hn355_0) (.int .i64 t349)).trans hx355_1; replace hx355_2 := (cell_far (p := ⟨gb354, 0, none⟩) (by first | (rw [add_block]; exact hn355_0) | (show (Addr.add _ _).block ≠ _; rw [add_block]; exact hn355_0) | exact hn355_0) (.int .i64 t349)).trans hx355_2; replace hx355_3 := (cell_far (p := ⟨gb354, 0, none⟩) (by first | (rw [add_block]; exact hn355_0) | (show (Addr.add _ _).block ≠ _; rw [add_block]; exact hn355_0) | exact hn355_0) (.int .i64 t349)).trans hx355_3; replace hx355_0 := (cell_far (p := ⟨gb354, 1, none⟩) (by first | (rw [add_block]; exact hn355_1) | (show (Addr.add _ _).block ≠ _; rw [add_block]; exact hn355_1) | exact hn355_1) (.int .i64 t350)).trans hx355_0; replace hx355_1 := (cell_far (p := ⟨gb354, 1, none⟩) (by first | (rw [add_block]; exact hn355_1) | (show (Addr.add _ _).block ≠ _; rw [add_block]; exact hn355_1) | exact hn355_1) (.int .i64 t350)).trans hx355_1; replace hx355_2 := (cell_far (p := ⟨gb354, 1, none⟩) (by first | (rw [add_block]; exact hn355_1) | (show (Addr.add _ _).block ≠ _; rw [add_block]; exact hn355_1) | exact hn355_1) (.int .i64 t350)).trans hx355_2; replace hx355_3 := (cell_far (p := ⟨gb354, 1, none⟩) (by first | (rw [add_block]; exact hn355_1) | (show (Addr.add _ _).block ≠ _; rw [add_block]; exact hn355_1) | exact hn355_1) (.int .i64 t350)).trans hx355_3; replace hx355_0 := (cell_far (p := ⟨gb354, 2, none⟩) (by first | (rw [add_block]; exact hn355_2) | (show (Addr.add _ _).block ≠ _; rw [add_block]; exact hn355_2) | exact hn355_2) (.string t351)).trans hx355_0; replace hx355_1 := (cell_far (p := ⟨gb354, 2, none⟩) (by first | (rw [add_block]; exact hn355_2) | (show (Addr.add _ _).block ≠ _; rw [add_block]; exact hn355_2) | exact hn355_2) (.string t351)).trans hx355_1; replace hx355_2 := (cell_far (p := ⟨gb354, 2, none⟩) (by first | (rw [add_block]; exact hn355_2) | (show (Addr.add _ _).block ≠ _; rw [add_block]; exact hn355_2) | exact hn355_2) (.string t351)).trans hx355_2; replace hx355_3 := (cell_far (p := ⟨gb354, 2, none⟩) (by first | (rw [add_block]; exact hn355_2) | (show (Addr.add _ _).block ≠ _; rw [add_block]; exact hn355_2) | exact hn355_2) (.string t351)).trans hx355_3; replace hx355_0 := (cell_far (p := ⟨gb354, 3, none⟩) (by first | (rw [add_block]; exact hn355_3) | (show (Addr.add _ _).block ≠ _; rw [add_block]; exact hn355_3) | exact hn355_3) (.bool t352)).trans hx355_0; replace hx355_1 := (cell_far (p := ⟨gb354, 3, none⟩) (by first | (rw [add_block]; exact hn355_3) | (show (Addr.add _ _).block ≠ _; rw [add_block]; exact hn355_3) | exact hn355_3) (.bool t352)).trans hx355_1; replace hx355_2 := (cell_far (p := ⟨gb354, 3, none⟩) (by first | (rw [add_block]; exact hn355_3) | (show (Addr.add _ _).block ≠ _; rw [add_block]; exact hn355_3) | exact hn355_3) (.bool t352)).trans hx355_2; replace hx355_3 := (cell_far (p := ⟨gb354, 3, none⟩) (by first | (rw [add_block]; exact hn355_3) | (show (Addr.add _ _).block ≠ _; rw [add_block]; exact hn355_3) | exact hn355_3) (.bool t352)).trans hx355_3; (try have hy355_0 := fun (n_ : Nat) => (show ((((((w25.drewN n_).setCell ⟨gb354, 0, none⟩ (.int .i64 t349)).setCell ⟨gb354, 1, none⟩ (.int .i64 t350)).setCell ⟨gb354, 2, none⟩ (.string t351)).setCell ⟨gb354, 3, none⟩ (.bool t352))).cell? _ = some _ from hx355_0)); (try have hy355_1 := fun (n_ : Nat) => (show ((((((w25.drewN n_).setCell ⟨gb354, 0, none⟩ (.int .i64 t349)).setCell ⟨gb354, 1, none⟩ (.int .i64 t350)).setCell ⟨gb354, 2, none⟩ (.string t351)).setCell ⟨gb354, 3, none⟩ (.bool t352))).cell? _ = some _ from hx355_1)); (try have hy355_2 := fun (n_ : Nat) => (show ((((((w25.drewN n_).setCell ⟨gb354, 0, none⟩ (.int .i64 t349)).setCell ⟨gb354, 1, none⟩ (.int .i64 t350)).setCell ⟨gb354, 2, none⟩ (.string t351)).setCell ⟨gb354, 3, none⟩ (.bool t352))).cell? _ = some _ from hx355_2)); (try have hy355_3 := fun (n_ : Nat) => (show ((((((w25.drewN n_).setCell ⟨gb354, 0, none⟩ (.int .i64 t349)).setCell ⟨gb354, 1, none⟩ (.int .i64 t350)).setCell ⟨gb354, 2, none⟩ (.string t351)).setCell ⟨gb354, 3, none⟩ (.bool t352))).cell? _ = some _ from hx355_3)); clear hn355_0; clear hn355_1; clear hn355_2; clear hn355_3; replace p355 := eq_true p355; replace q355 := eq_true q355))
                    repeat (go_quiet (first | (go_at_call 13; (with_reducible refine (value_Show.calls ((rd_T26 l0 x6_1).f0) ((rd_T26 l0 x6_1).f1) ((rd_T26 l0 x6_1).f2) ((rd_T26 l0 x6_1).f3) t345 t346 _ ?side1 A8.out).mono ?_); (case side1 => first | (with_reducible exact HL_LG1) | exact ⟨LG1.below HL_LG1.out (hbT HB.out)⟩); rintro e w22 ⟨rfl, hb⟩; replace HB := bsA HB hb; (try clear hb); (try clear hb2); (try clear hk); (try clear hi); have p347 : 0 ≤ (x6_1 : Int) := of_decide_eq_true (by first | (with_reducible assumption) | assumption); have q347 : x6_1 < (l0.length : Int) := of_decide_eq_true (by first | (with_reducible assumption) | assumption); obtain ⟨ad347, e347, hx347_0, hx347_1, hx347_2, hx347_3⟩ := at_T26 HR0.out x6_1 p347 q347; obtain rfl : ad344 = ad347 := (by injection e347); replace hx347_0 := (HB.out.cell (World.block_lt_of_cell? w _ hx347_0)).trans hx347_0; replace hx347_1 := (HB.out.cell (World.block_lt_of_cell? w _ hx347_1)).trans hx347_1; replace hx347_2 := (HB.out.cell (World.block_lt_of_cell? w _ hx347_2)).trans hx347_2; replace hx347_3 := (HB.out.cell (World.block_lt_of_cell? w _ hx347_3)).trans hx347_3; replace p347 := eq_true p347; replace q347 := eq_true q347) | (go_at_call 11; (with_reducible refine (value_Valid.calls ((rd_T26 l0 x6_1).f0) ((rd_T26 l0 x6_1).f1) ((rd_T26 l0 x6_1).f2) ((rd_T26 l0 x6_1).f3) true _ A9.out).mono ?_); rintro e w23 ⟨rfl, hb⟩; replace HB := bsA HB hb; (try clear hb); (try clear hb2); (try clear hk); (try clear hi)) | (go_at_call 15; (with_reducible refine (value_Read.calls k1 t345 t349 t350 t351 t352 t353 _ ?side1 ?side2 ?side3 A14.out).mono ?_); (case side1 => first | (with_reducible exact HL_LErr) | exact ⟨LErr.below HL_LErr.out (hbT HB.out)⟩); (case side2 => first | (with_reducible exact HL_LG1) | exact ⟨LG1.below HL_LG1.out (hbT HB.out)⟩); (case side3 => first | (with_reducible exact HL_LSyn) | exact ⟨LSyn.below HL_LSyn.out (hbT HB.out)⟩); rintro e w24 ⟨rfl, hb⟩; replace HB := bsA HB hb; (try clear hb); (try clear hb2); (try clear hk); (try clear hi)) | ((with_reducible refine gate_dst (N := 10) rfl ?_); refine box_event ?hg (N := 10) ?hd (cs := #[.int .i64 0, .int .i64 0, .string (⟨#[]⟩ : ByteArray), .bool false]) (t := 26) ?hr ?_; (case hd => rfl); (case hg => rfl); (case hr => first | (go_simp; done) | (go_simp; rfl)); intro gb354 hg w25 hbox hb; have BK354 := Aside0.mk hbox; have GW354 := geA hg HB; have GE354 := geA hg HB; replace HB := bsA HB hb; clear hb hbox hg; have hcz26_0 : w25.cell? ⟨gb354, 0, none⟩ = some (.int .i64 0) := (blk_cell BK354.out 0).trans rfl; have hcz26_1 : w25.cell? ⟨gb354, 1, none⟩ = some (.int .i64 0) := (blk_cell BK354.out 1).trans rfl; have hcz26_2 : w25.cell? ⟨gb354, 2, none⟩ = some (.string (⟨#[]⟩ : ByteArray)) := (blk_cell BK354.out 2).trans rfl; have hcz26_3 : w25.cell? ⟨gb354, 3, none⟩ = some (.bool false) := (blk_cell BK354.out 3).trans rfl; have hfz26_0 := blk_frozen BK354.out 0; have hfz26_1 := blk_frozen BK354.out 1; have hfz26_2 := blk_frozen BK354.out 2; have hfz26_3 := blk_frozen BK354.out 3; have p355 : 0 ≤ (x6_1 : Int) := of_decide_eq_true (by first | (with_reducible assumption) | assumption); have q355 : x6_1 < (l0.length : Int) := of_decide_eq_true (by first | (with_reducible assumption) | assumption); obtain ⟨ad355, e355, hx355_0, hx355_1, hx355_2, hx355_3⟩ := at_T26 HR0.out x6_1 p355 q355; obtain rfl : ad344 = ad355 := (by injection e355); have hn355_0 : ad344.block ≠ gb354 := Nat.ne_of_lt (Nat.lt_of_lt_of_le (by have := World.block_lt_of_cell? _ _ hx355_0; first | rwa [add_block] at this | exact this) GW354.out); have hn355_1 : ad344.block ≠ gb354 := Nat.ne_of_lt (Nat.lt_of_lt_of_le (by have := World.block_lt_of_cell? _ _ hx355_0; first | rwa [add_block] at this | exact this) GW354.out); have hn355_2 : ad344.block ≠ gb354 := Nat.ne_of_lt (Nat.lt_of_lt_of_le (by have := World.block_lt_of_cell? _ _ hx355_0; first | rwa [add_block] at this | exact this) GW354.out); have hn355_3 : ad344.block ≠ gb354 := Nat.ne_of_lt (Nat.lt_of_lt_of_le (by have := World.block_lt_of_cell? _ _ hx355_0; first | rwa [add_block] at this | exact this) GW354.out); replace hx355_0 := (HB.out.cell (World.block_lt_of_cell? w _ hx355_0)).trans hx355_0; replace hx355_1 := (HB.out.cell (World.block_lt_of_cell? w _ hx355_1)).trans hx355_1; replace hx355_2 := (HB.out.cell (World.block_lt_of_cell? w _ hx355_2)).trans hx355_2; replace hx355_3 := (HB.out.cell (World.block_lt_of_cell? w _ hx355_3)).trans hx355_3; replace hx355_0 := (cell_far (p := ⟨gb354, 0, none⟩) (by first | (rw [add_block]; exact hn355_0) | (show (Addr.add _ _).block ≠ _; rw [add_block]; exact hn355_0) | exact hn355_0) (.int .i64 t349)).trans hx355_0; replace hx355_1 := (cell_far (p := ⟨gb354, 0, none⟩) (by first | (rw [add_block]; exact hn355_0) | (show (Addr.add _ _).block ≠ _; rw [add_block]; exact hn355_0) | exact hn355_0) (.int .i64 t349)).trans hx355_1; replace hx355_2 := (cell_far (p := ⟨gb354, 0, none⟩) (by first | (rw [add_block]; exact hn355_0) | (show (Addr.add _ _).block ≠ _; rw [add_block]; exact hn355_0) | exact hn355_0) (.int .i64 t349)).trans hx355_2; replace hx355_3 := (cell_far (p := ⟨gb354, 0, none⟩) (by first | (rw [add_block]; exact hn355_0) | (show (Addr.add _ _).block ≠ _; rw [add_block]; exact hn355_0) | exact hn355_0) (.int .i64 t349)).trans hx355_3; replace hx355_0 := (cell_far (p := ⟨gb354, 1, none⟩) (by first | (rw [add_block]; exact hn355_1) | (show (Addr.add _ _).block ≠ _; rw [add_block]; exact hn355_1) | exact hn355_1) (.int .i64 t350)).trans hx355_0; replace hx355_1 := (cell_far (p := ⟨gb354, 1, none⟩) (by first | (rw [add_block]; exact hn355_1) | (show (Addr.add _ _).block ≠ _; rw [add_block]; exact hn355_1) | exact hn355_1) (.int .i64 t350)).trans hx355_1; replace hx355_2 := (cell_far (p := ⟨gb354, 1, none⟩) (by first | (rw [add_block]; exact hn355_1) | (show (Addr.add _ _).block ≠ _; rw [add_block]; exact hn355_1) | exact hn355_1) (.int .i64 t350)).trans hx355_2; replace hx355_3 := (cell_far (p := ⟨gb354, 1, none⟩) (by first | (rw [add_block]; exact hn355_1) | (show (Addr.add _ _).block ≠ _; rw [add_block]; exact hn355_1) | exact hn355_1) (.int .i64 t350)).trans hx355_3; replace hx355_0 := (cell_far (p := ⟨gb354, 2, none⟩) (by first | (rw [add_block]; exact hn355_2) | (show (Addr.add _ _).block ≠ _; rw [add_block]; exact hn355_2) | exact hn355_2) (.string t351)).trans hx355_0; replace hx355_1 := (cell_far (p := ⟨gb354, 2, none⟩) (by first | (rw [add_block]; exact hn355_2) | (show (Addr.add _ _).block ≠ _; rw [add_block]; exact hn355_2) | exact hn355_2) (.string t351)).trans hx355_1; replace hx355_2 := (cell_far (p := ⟨gb354, 2, none⟩) (by first | (rw [add_block]; exact hn355_2) | (show (Addr.add _ _).block ≠ _; rw [add_block]; exact hn355_2) | exact hn355_2) (.string t351)).trans hx355_2; replace hx355_3 := (cell_far (p := ⟨gb354, 2, none⟩) (by first | (rw [add_block]; exact hn355_2) | (show (Addr.add _ _).block ≠ _; rw [add_block]; exact hn355_2) | exact hn355_2) (.string t351)).trans hx355_3; replace hx355_0 := (cell_far (p := ⟨gb354, 3, none⟩) (by first | (rw [add_block]; exact hn355_3) | (show (Addr.add _ _).block ≠ _; rw [add_block]; exact hn355_3) | exact hn355_3) (.bool t352)).trans hx355_0; replace hx355_1 := (cell_far (p := ⟨gb354, 3, none⟩) (by first | (rw [add_block]; exact hn355_3) | (show (Addr.add _ _).block ≠ _; rw [add_block]; exact hn355_3) | exact hn355_3) (.bool t352)).trans hx355_1; replace hx355_2 := (cell_far (p := ⟨gb354, 3, none⟩) (by first | (rw [add_block]; exact hn355_3) | (show (Addr.add _ _).block ≠ _; rw [add_block]; exact hn355_3) | exact hn355_3) (.bool t352)).trans hx355_2; replace hx355_3 := (cell_far (p := ⟨gb354, 3, none⟩) (by first | (rw [add_block]; exact hn355_3) | (show (Addr.add _ _).block ≠ _; rw [add_block]; exact hn355_3) | exact hn355_3) (.bool t352)).trans hx355_3; (try have hy355_0 := fun (n_ : Nat) => (show ((((((w25.drewN n_).setCell ⟨gb354, 0, none⟩ (.int .i64 t349)).setCell ⟨gb354, 1, none⟩ (.int .i64 t350)).setCell ⟨gb354, 2, none⟩ (.string t351)).setCell ⟨gb354, 3, none⟩ (.bool t352))).cell? _ = some _ from hx355_0)); (try have hy355_1 := fun (n_ : Nat) => (show ((((((w25.drewN n_).setCell ⟨gb354, 0, none⟩ (.int .i64 t349)).setCell ⟨gb354, 1, none⟩ (.int .i64 t350)).setCell ⟨gb354, 2, none⟩ (.string t351)).setCell ⟨gb354, 3, none⟩ (.bool t352))).cell? _ = some _ from hx355_1)); (try have hy355_2 := fun (n_ : Nat) => (show ((((((w25.drewN n_).setCell ⟨gb354, 0, none⟩ (.int .i64 t349)).setCell ⟨gb354, 1, none⟩ (.int .i64 t350)).setCell ⟨gb354, 2, none⟩ (.string t351)).setCell ⟨gb354, 3, none⟩ (.bool t352))).cell? _ = some _ from hx355_2)); (try have hy355_3 := fun (n_ : Nat) => (show ((((((w25.drewN n_).setCell ⟨gb354, 0, none⟩ (.int .i64 t349)).setCell ⟨gb354, 1, none⟩ (.int .i64 t350)).setCell ⟨gb354, 2, none⟩ (.string t351)).setCell ⟨gb354, 3, none⟩ (.bool t352))).cell? _ = some _ from hx355_3)); clear hn355_0; clear hn355_1; clear hn355_2; clear hn355_3; replace p355 := eq_true p355; replace q355 := eq_true q355)); try go_wp2_with (first | (go_at_call 13; (with_reducible refine (value_Show.calls ((rd_T26 l0 x6_1).f0) ((rd_T26 l0 x6_1).f1) ((rd_T26 l0 x6_1).f2) ((rd_T26 l0 x6_1).f3) t345 t346 _ ?side1 A8.out).mono ?_); (case side1 => first | (with_reducible exact HL_LG1) | exact ⟨LG1.below HL_LG1.out (hbT HB.out)⟩); rintro e w22 ⟨rfl, hb⟩; replace HB := bsA HB hb; (try clear hb); (try clear hb2); (try clear hk); (try clear hi); have p347 : 0 ≤ (x6_1 : Int) := of_decide_eq_true (by first | (with_reducible assumption) | assumption); have q347 : x6_1 < (l0.length : Int) := of_decide_eq_true (by first | (with_reducible assumption) | assumption); obtain ⟨ad347, e347, hx347_0, hx347_1, hx347_2, hx347_3⟩ := at_T26 HR0.out x6_1 p347 q347; obtain rfl : ad344 = ad347 := (by injection e347); replace hx347_0 := (HB.out.cell (World.block_lt_of_cell? w _ hx347_0)).trans hx347_0; replace hx347_1 := (HB.out.cell (World.block_lt_of_cell? w _ hx347_1)).trans hx347_1; replace hx347_2 := (HB.out.cell (World.block_lt_of_cell? w _ hx347_2)).trans hx347_2; replace hx347_3 := (HB.out.cell (World.block_lt_of_cell? w _ hx347_3)).trans hx347_3; replace p347 := eq_true p347; replace q347 := eq_true q347) | (go_at_call 11; (with_reducible refine (value_Valid.calls ((rd_T26 l0 x6_1).f0) ((rd_T26 l0 x6_1).f1) ((rd_T26 l0 x6_1).f2) ((rd_T26 l0 x6_1).f3) true _ A9.out).mono ?_); rintro e w23 ⟨rfl, hb⟩; replace HB := bsA HB hb; (try clear hb); (try clear hb2); (try clear hk); (try clear hi)) | (go_at_call 15; (with_reducible refine (value_Read.calls k1 t345 t349 t350 t351 t352 t353 _ ?side1 ?side2 ?side3 A14.out).mono ?_); (case side1 => first | (with_reducible exact HL_LErr) | exact ⟨LErr.below HL_LErr.out (hbT HB.out)⟩); (case side2 => first | (with_reducible exact HL_LG1) | exact ⟨LG1.below HL_LG1.out (hbT HB.out)⟩); (case side3 => first | (with_reducible exact HL_LSyn) | exact ⟨LSyn.below HL_LSyn.out (hbT HB.out)⟩); rintro e w24 ⟨rfl, hb⟩; replace HB := bsA HB hb; (try clear hb); (try clear hb2); (try clear hk); (try clear hi)) | ((with_reducible refine gate_dst (N := 10) rfl ?_); refine box_event ?hg (N := 10) ?hd (cs := #[.int .i64 0, .int .i64 0, .string (⟨#[]⟩ : ByteArray), .bool false]) (t := 26) ?hr ?_; (case hd => rfl); (case hg => rfl); (case hr => first | (go_simp; done) | (go_simp; rfl)); intro gb354 hg w25 hbox hb; have BK354 := Aside0.mk hbox; have GW354 := geA hg HB; have GE354 := geA hg HB; replace HB := bsA HB hb; clear hb hbox hg; have hcz26_0 : w25.cell? ⟨gb354, 0, none⟩ = some (.int .i64 0) := (blk_cell BK354.out 0).trans rfl; have hcz26_1 : w25.cell? ⟨gb354, 1, none⟩ = some (.int .i64 0) := (blk_cell BK354.out 1).trans rfl; have hcz26_2 : w25.cell? ⟨gb354, 2, none⟩ = some (.string (⟨#[]⟩ : ByteArray)) := (blk_cell BK354.out 2).trans rfl; have hcz26_3 : w25.cell? ⟨gb354, 3, none⟩ = some (.bool false) := (blk_cell BK354.out 3).trans rfl; have hfz26_0 := blk_frozen BK354.out 0; have hfz26_1 := blk_frozen BK354.out 1; have hfz26_2 := blk_frozen BK354.out 2; have hfz26_3 := blk_frozen BK354.out 3; have p355 : 0 ≤ (x6_1 : Int) := of_decide_eq_true (by first | (with_reducible assumption) | assumption); have q355 : x6_1 < (l0.length : Int) := of_decide_eq_true (by first | (with_reducible assumption) | assumption); obtain ⟨ad355, e355, hx355_0, hx355_1, hx355_2, hx355_3⟩ := at_T26 HR0.out x6_1 p355 q355; obtain rfl : ad344 = ad355 := (by injection e355); have hn355_0 : ad344.block ≠ gb354 := Nat.ne_of_lt (Nat.lt_of_lt_of_le (by have := World.block_lt_of_cell? _ _ hx355_0; first | rwa [add_block] at this | exact this) GW354.out); have hn355_1 : ad344.block ≠ gb354 := Nat.ne_of_lt (Nat.lt_of_lt_of_le (by have := World.block_lt_of_cell? _ _ hx355_0; first | rwa [add_block] at this | exact this) GW354.out); have hn355_2 : ad344.block ≠ gb354 := Nat.ne_of_lt (Nat.lt_of_lt_of_le (by have := World.block_lt_of_cell? _ _ hx355_0; first | rwa [add_block] at this | exact this) GW354.out); have hn355_3 : ad344.block ≠ gb354 := Nat.ne_of_lt (Nat.lt_of_lt_of_le (by have := World.block_lt_of_cell? _ _ hx355_0; first | rwa [add_block] at this | exact this) GW354.out); replace hx355_0 := (HB.out.cell (World.block_lt_of_cell? w _ hx355_0)).trans hx355_0; replace hx355_1 := (HB.out.cell (World.block_lt_of_cell? w _ hx355_1)).trans hx355_1; replace hx355_2 := (HB.out.cell (World.block_lt_of_cell? w _ hx355_2)).trans hx355_2; replace hx355_3 := (HB.out.cell (World.block_lt_of_cell? w _ hx355_3)).trans hx355_3; replace hx355_0 := (cell_far (p := ⟨gb354, 0, none⟩) (by first | (rw [add_block]; exact hn355_0) | (show (Addr.add _ _).block ≠ _; rw [add_block]; exact hn355_0) | exact hn355_0) (.int .i64 t349)).trans hx355_0; replace hx355_1 := (cell_far (p := ⟨gb354, 0, none⟩) (by first | (rw [add_block]; exact hn355_0) | (show (Addr.add _ _).block ≠ _; rw [add_block]; exact hn355_0) | exact hn355_0) (.int .i64 t349)).trans hx355_1; replace hx355_2 := (cell_far (p := ⟨gb354, 0, none⟩) (by first | (rw [add_block]; exact hn355_0) | (show (Addr.add _ _).block ≠ _; rw [add_block]; exact hn355_0) | exact hn355_0) (.int .i64 t349)).trans hx355_2; replace hx355_3 := (cell_far (p := ⟨gb354, 0, none⟩) (by first | (rw [add_block]; exact hn355_0) | (show (Addr.add _ _).block ≠ _; rw [add_block]; exact hn355_0) | exact hn355_0) (.int .i64 t349)).trans hx355_3; replace hx355_0 := (cell_far (p := ⟨gb354, 1, none⟩) (by first | (rw [add_block]; exact hn355_1) | (show (Addr.add _ _).block ≠ _; rw [add_block]; exact hn355_1) | exact hn355_1) (.int .i64 t350)).trans hx355_0; replace hx355_1 := (cell_far (p := ⟨gb354, 1, none⟩) (by first | (rw [add_block]; exact hn355_1) | (show (Addr.add _ _).block ≠ _; rw [add_block]; exact hn355_1) | exact hn355_1) (.int .i64 t350)).trans hx355_1; replace hx355_2 := (cell_far (p := ⟨gb354, 1, none⟩) (by first | (rw [add_block]; exact hn355_1) | (show (Addr.add _ _).block ≠ _; rw [add_block]; exact hn355_1) | exact hn355_1) (.int .i64 t350)).trans hx355_2; replace hx355_3 := (cell_far (p := ⟨gb354, 1, none⟩) (by first | (rw [add_block]; exact hn355_1) | (show (Addr.add _ _).block ≠ _; rw [add_block]; exact hn355_1) | exact hn355_1) (.int .i64 t350)).trans hx355_3; replace hx355_0 := (cell_far (p := ⟨gb354, 2, none⟩) (by first | (rw [add_block]; exact hn355_2) | (show (Addr.add _ _).block ≠ _; rw [add_block]; exact hn355_2) | exact hn355_2) (.string t351)).trans hx355_0; replace hx355_1 := (cell_far (p := ⟨gb354, 2, none⟩) (by first | (rw [add_block]; exact hn355_2) | (show (Addr.add _ _).block ≠ _; rw [add_block]; exact hn355_2) | exact hn355_2) (.string t351)).trans hx355_1; replace hx355_2 := (cell_far (p := ⟨gb354, 2, none⟩) (by first | (rw [add_block]; exact hn355_2) | (show (Addr.add _ _).block ≠ _; rw [add_block]; exact hn355_2) | exact hn355_2) (.string t351)).trans hx355_2; replace hx355_3 := (cell_far (p := ⟨gb354, 2, none⟩) (by first | (rw [add_block]; exact hn355_2) | (show (Addr.add _ _).block ≠ _; rw [add_block]; exact hn355_2) | exact hn355_2) (.string t351)).trans hx355_3; replace hx355_0 := (cell_far (p := ⟨gb354, 3, none⟩) (by first | (rw [add_block]; exact hn355_3) | (show (Addr.add _ _).block ≠ _; rw [add_block]; exact hn355_3) | exact hn355_3) (.bool t352)).trans hx355_0; replace hx355_1 := (cell_far (p := ⟨gb354, 3, none⟩) (by first | (rw [add_block]; exact hn355_3) | (show (Addr.add _ _).block ≠ _; rw [add_block]; exact hn355_3) | exact hn355_3) (.bool t352)).trans hx355_1; replace hx355_2 := (cell_far (p := ⟨gb354, 3, none⟩) (by first | (rw [add_block]; exact hn355_3) | (show (Addr.add _ _).block ≠ _; rw [add_block]; exact hn355_3) | exact hn355_3) (.bool t352)).trans hx355_2; replace hx355_3 := (cell_far (p := ⟨gb354, 3, none⟩) (by first | (rw [add_block]; exact hn355_3) | (show (Addr.add _ _).block ≠ _; rw [add_block]; exact hn355_3) | exact hn355_3) (.bool t352)).trans hx355_3; (try have hy355_0 := fun (n_ : Nat) => (show ((((((w25.drewN n_).setCell ⟨gb354, 0, none⟩ (.int .i64 t349)).setCell ⟨gb354, 1, none⟩ (.int .i64 t350)).setCell ⟨gb354, 2, none⟩ (.string t351)).setCell ⟨gb354, 3, none⟩ (.bool t352))).cell? _ = some _ from hx355_0)); (try have hy355_1 := fun (n_ : Nat) => (show ((((((w25.drewN n_).setCell ⟨gb354, 0, none⟩ (.int .i64 t349)).setCell ⟨gb354, 1, none⟩ (.int .i64 t350)).setCell ⟨gb354, 2, none⟩ (.string t351)).setCell ⟨gb354, 3, none⟩ (.bool t352))).cell? _ = some _ from hx355_1)); (try have hy355_2 := fun (n_ : Nat) => (show ((((((w25.drewN n_).setCell ⟨gb354, 0, none⟩ (.int .i64 t349)).setCell ⟨gb354, 1, none⟩ (.int .i64 t350)).setCell ⟨gb354, 2, none⟩ (.string t351)).setCell ⟨gb354, 3, none⟩ (.bool t352))).cell? _ = some _ from hx355_2)); (try have hy355_3 := fun (n_ : Nat) => (show ((((((w25.drewN n_).setCell ⟨gb354, 0, none⟩ (.int .i64 t349)).setCell ⟨gb354, 1, none⟩ (.int .i64 t350)).setCell ⟨gb354, 2, none⟩ (.string t351)).setCell ⟨gb354, 3, none⟩ (.bool t352))).cell? _ = some _ from hx355_3)); clear hn355_0; clear hn355_1; clear hn355_2; clear hn355_3; replace p355 := eq_true p355; replace q355 := eq_true q355)))
                    go_roundg k1
                    case measure => have := HK1.out; omega
                    case rel => exact ⟨(wrap64 (x6_1 + 1)), (by first | rfl | (simp; done) | (simp [*]; done) | (simp; unfold wrap64; omega) | (congr 1; (try rw [Bool.eq_iff_iff]); simp [List.isEmpty_iff]; done)), H', ⟨by have := HK1.out; omega⟩, ⟨hbT HB.out⟩⟩
                · rw [if_neg c15] at H
                  have c15b0 : (t353 == 0) = false := beq_eq_false_iff_ne.mpr c15
                  have c15b1 : (t353 != 0) = true := bne_iff_ne.mpr c15
                  exact absurd ((Option.some.inj H).trans hr.out) Bool.false_ne_true
              · replace c13 := Bool.eq_false_iff.mpr c13
                subst c13
                have H1 : (refrainlaw1_ValueRound.l0 k1 l0 l1 (wrap64 (x6_1 + 1))) = some r := by rw [if_neg (show ¬ (false = true) by decide)] at H; exact H
                clear H
                have H := H1
                clear H1
                have H' := Aside0.mk H
                clear H
                have p344 : 0 ≤ (x6_1 : Int) := of_decide_eq_true (by first | (with_reducible assumption) | assumption)
                have q344 : x6_1 < (l0.length : Int) := of_decide_eq_true (by first | (with_reducible assumption) | assumption)
                obtain ⟨ad344, e344, hx344_0, hx344_1, hx344_2, hx344_3⟩ := at_T26 HR0.out x6_1 p344 q344
                cases e344
                replace hx344_0 := (HB.out.cell (World.block_lt_of_cell? w _ hx344_0)).trans hx344_0; replace hx344_1 := (HB.out.cell (World.block_lt_of_cell? w _ hx344_1)).trans hx344_1; replace hx344_2 := (HB.out.cell (World.block_lt_of_cell? w _ hx344_2)).trans hx344_2; replace hx344_3 := (HB.out.cell (World.block_lt_of_cell? w _ hx344_3)).trans hx344_3
                replace p344 := eq_true p344
                replace q344 := eq_true q344
                go_wp2_with (first | (go_at_call 13; (with_reducible refine (value_Show.calls ((rd_T26 l0 x6_1).f0) ((rd_T26 l0 x6_1).f1) ((rd_T26 l0 x6_1).f2) ((rd_T26 l0 x6_1).f3) t345 t346 _ ?side1 A8.out).mono ?_); (case side1 => first | (with_reducible exact HL_LG1) | exact ⟨LG1.below HL_LG1.out (hbT HB.out)⟩); rintro e w32 ⟨rfl, hb⟩; replace HB := bsA HB hb; (try clear hb); (try clear hb2); (try clear hk); (try clear hi); have p347 : 0 ≤ (x6_1 : Int) := of_decide_eq_true (by first | (with_reducible assumption) | assumption); have q347 : x6_1 < (l0.length : Int) := of_decide_eq_true (by first | (with_reducible assumption) | assumption); obtain ⟨ad347, e347, hx347_0, hx347_1, hx347_2, hx347_3⟩ := at_T26 HR0.out x6_1 p347 q347; obtain rfl : ad344 = ad347 := (by injection e347); replace hx347_0 := (HB.out.cell (World.block_lt_of_cell? w _ hx347_0)).trans hx347_0; replace hx347_1 := (HB.out.cell (World.block_lt_of_cell? w _ hx347_1)).trans hx347_1; replace hx347_2 := (HB.out.cell (World.block_lt_of_cell? w _ hx347_2)).trans hx347_2; replace hx347_3 := (HB.out.cell (World.block_lt_of_cell? w _ hx347_3)).trans hx347_3; replace p347 := eq_true p347; replace q347 := eq_true q347) | (go_at_call 11; (with_reducible refine (value_Valid.calls ((rd_T26 l0 x6_1).f0) ((rd_T26 l0 x6_1).f1) ((rd_T26 l0 x6_1).f2) ((rd_T26 l0 x6_1).f3) false _ A9.out).mono ?_); rintro e w33 ⟨rfl, hb⟩; replace HB := bsA HB hb; (try clear hb); (try clear hb2); (try clear hk); (try clear hi)))
                repeat (go_quiet (first | (go_at_call 13; (with_reducible refine (value_Show.calls ((rd_T26 l0 x6_1).f0) ((rd_T26 l0 x6_1).f1) ((rd_T26 l0 x6_1).f2) ((rd_T26 l0 x6_1).f3) t345 t346 _ ?side1 A8.out).mono ?_); (case side1 => first | (with_reducible exact HL_LG1) | exact ⟨LG1.below HL_LG1.out (hbT HB.out)⟩); rintro e w32 ⟨rfl, hb⟩; replace HB := bsA HB hb; (try clear hb); (try clear hb2); (try clear hk); (try clear hi); have p347 : 0 ≤ (x6_1 : Int) := of_decide_eq_true (by first | (with_reducible assumption) | assumption); have q347 : x6_1 < (l0.length : Int) := of_decide_eq_true (by first | (with_reducible assumption) | assumption); obtain ⟨ad347, e347, hx347_0, hx347_1, hx347_2, hx347_3⟩ := at_T26 HR0.out x6_1 p347 q347; obtain rfl : ad344 = ad347 := (by injection e347); replace hx347_0 := (HB.out.cell (World.block_lt_of_cell? w _ hx347_0)).trans hx347_0; replace hx347_1 := (HB.out.cell (World.block_lt_of_cell? w _ hx347_1)).trans hx347_1; replace hx347_2 := (HB.out.cell (World.block_lt_of_cell? w _ hx347_2)).trans hx347_2; replace hx347_3 := (HB.out.cell (World.block_lt_of_cell? w _ hx347_3)).trans hx347_3; replace p347 := eq_true p347; replace q347 := eq_true q347) | (go_at_call 11; (with_reducible refine (value_Valid.calls ((rd_T26 l0 x6_1).f0) ((rd_T26 l0 x6_1).f1) ((rd_T26 l0 x6_1).f2) ((rd_T26 l0 x6_1).f3) false _ A9.out).mono ?_); rintro e w33 ⟨rfl, hb⟩; replace HB := bsA HB hb; (try clear hb); (try clear hb2); (try clear hk); (try clear hi))); try go_wp2_with (first | (go_at_call 13; (with_reducible refine (value_Show.calls ((rd_T26 l0 x6_1).f0) ((rd_T26 l0 x6_1).f1) ((rd_T26 l0 x6_1).f2) ((rd_T26 l0 x6_1).f3) t345 t346 _ ?side1 A8.out).mono ?_); (case side1 => first | (with_reducible exact HL_LG1) | exact ⟨LG1.below HL_LG1.out (hbT HB.out)⟩); rintro e w32 ⟨rfl, hb⟩; replace HB := bsA HB hb; (try clear hb); (try clear hb2); (try clear hk); (try clear hi); have p347 : 0 ≤ (x6_1 : Int) := of_decide_eq_true (by first | (with_reducible assumption) | assumption); have q347 : x6_1 < (l0.length : Int) := of_decide_eq_true (by first | (with_reducible assumption) | assumption); obtain ⟨ad347, e347, hx347_0, hx347_1, hx347_2, hx347_3⟩ := at_T26 HR0.out x6_1 p347 q347; obtain rfl : ad344 = ad347 := (by injection e347); replace hx347_0 := (HB.out.cell (World.block_lt_of_cell? w _ hx347_0)).trans hx347_0; replace hx347_1 := (HB.out.cell (World.block_lt_of_cell? w _ hx347_1)).trans hx347_1; replace hx347_2 := (HB.out.cell (World.block_lt_of_cell? w _ hx347_2)).trans hx347_2; replace hx347_3 := (HB.out.cell (World.block_lt_of_cell? w _ hx347_3)).trans hx347_3; replace p347 := eq_true p347; replace q347 := eq_true q347) | (go_at_call 11; (with_reducible refine (value_Valid.calls ((rd_T26 l0 x6_1).f0) ((rd_T26 l0 x6_1).f1) ((rd_T26 l0 x6_1).f2) ((rd_T26 l0 x6_1).f3) false _ A9.out).mono ?_); rintro e w33 ⟨rfl, hb⟩; replace HB := bsA HB hb; (try clear hb); (try clear hb2); (try clear hk); (try clear hi))))
                go_roundg k1
                case measure => have := HK1.out; omega
                case rel => exact ⟨(wrap64 (x6_1 + 1)), (by first | rfl | (simp; done) | (simp [*]; done) | (simp; unfold wrap64; omega) | (congr 1; (try rw [Bool.eq_iff_iff]); simp [List.isEmpty_iff]; done)), H', ⟨by have := HK1.out; omega⟩, ⟨hbT HB.out⟩⟩
          · rw [if_neg c7] at H
            exact absurd H (by simp)
        · rw [if_neg c6] at H
          have c6b0 : decide (x6_1 < (l0.length : Int)) = false := decide_eq_false c6
          clear c6
          have H' := Aside0.mk H
          clear H
          go_wp2
          repeat (go_quiet (fail); try go_wp2)
          go_loopg [12] k1 (fun kq v12 w' => ∃ (x12_2 : Int), v12 = .int .i64 x12_2 ∧ Aside0 (refrainlaw1_ValueRound.l1 kq l1 x12_2 = some r) ∧ Aside0 (kq ≤ k1) ∧ Aside0 (Below w.heap.size w w'))
          case atStart => exact ⟨(0), (by first | rfl | (simp; done) | (simp [*]; done) | (simp; unfold wrap64; omega) | (congr 1; (try rw [Bool.eq_iff_iff]); simp [List.isEmpty_iff]; done)), H', ⟨Nat.le_refl _⟩, ⟨hbT HB.out⟩⟩
          case round =>
            clear H'
            try clear c1
            try clear p2
            try clear p3
            try clear q3
            try clear hx3
            try clear c4
            try clear c5
            try clear c6
            try clear c6b0
            try clear p6
            try clear c7
            try clear c7b0
            try clear c10
            try clear c10b0
            try clear c10b1
            try clear c10b2
            try clear c13
            try clear c15
            try clear c15b0
            try clear c15b1
            try clear c16
            try clear c16b0
            try clear hcz21_0 hcz21_1 hcz21_2 hcz21_3
            try clear hcz26_0 hcz26_1 hcz26_2 hcz26_3
            try clear hcz31_0 hcz31_1 hcz31_2 hcz31_3
            try clear hfz21_0 hfz21_1 hfz21_2 hfz21_3
            try clear hfz26_0 hfz26_1 hfz26_2 hfz26_3
            try clear hfz31_0 hfz31_1 hfz31_2 hfz31_3
            try clear hx344_0
            try clear hx344_1
            try clear hx344_2
            try clear hx344_3
            try clear hx347_0
            try clear hx347_1
            try clear hx347_2
            try clear hx347_3
            try clear hx355_0
            try clear hx355_1
            try clear hx355_2
            try clear hx355_3
            try clear p2
            try clear p344
            try clear p347
            try clear p355
            try clear q344
            try clear q347
            try clear q355
            obtain ⟨x12_2, rfl, HA, HK2, HB⟩ := hrel
            cases gk with
            | zero => (have HA2 := HA.out; clear HA; revert HA2; rw [refrainlaw1_ValueRound.l1_zero]; intro h_; cases h_)
            | succ k2 =>
              have H := HA.out
              clear HA
              simp only [refrainlaw1_ValueRound.l1] at H
              by_cases c34 : x12_2 < (l1.length : Int)
              · rw [if_pos c34] at H
                have c34b0 : decide (x12_2 < (l1.length : Int)) = true := decide_eq_true c34
                clear c34
                by_cases c35 : 0 ≤ x12_2
                · rw [if_pos c35] at H
                  have c35b0 : decide (0 ≤ x12_2) = true := decide_eq_true c35
                  clear c35
                  replace H := Option.bind_eq_some_iff.mp H
                  obtain ⟨⟨t357, t358, t359, t360, t361⟩, A360, H⟩ := H
                  replace H : (if t361 = 0 then ((value_Show.f t357 t358 t359 t360).bind fun bt363 => (if bt363.2 = 0 then (if bt363.1.toList = (rdOf ByteArray.empty l1 x12_2).toList then (refrainlaw1_ValueRound.l1 k2 l1 (wrap64 (x12_2 + 1))) else (some false)) else (some false))) else (refrainlaw1_ValueRound.l1 k2 l1 (wrap64 (x12_2 + 1)))) = some r := H
                  have A36 := Aside0.mk A360
                  clear A360
                  by_cases c37 : t361 = 0
                  · rw [if_pos c37] at H
                    have c37b0 : (t361 == 0) = true := beq_iff_eq.mpr c37
                    have c37b1 : (t361 != 0) = false := bne_eq_false_iff_eq.mpr c37
                    clear c37
                    replace H := Option.bind_eq_some_iff.mp H
                    obtain ⟨⟨t363, t364⟩, A380, H⟩ := H
                    replace H : (if t364 = 0 then (if t363.toList = (rdOf ByteArray.empty l1 x12_2).toList then (refrainlaw1_ValueRound.l1 k2 l1 (wrap64 (x12_2 + 1))) else (some false)) else (some false)) = some r := H
                    have A38 := Aside0.mk A380
                    clear A380
                    by_cases c39 : t364 = 0
                    · rw [if_pos c39] at H
                      have c39b0 : (t364 == 0) = true := beq_iff_eq.mpr c39
                      have c39b1 : (t364 != 0) = false := bne_eq_false_iff_eq.mpr c39
                      clear c39
                      by_cases c40 : t363.toList = (rdOf ByteArray.empty l1 x12_2).toList
                      · rw [if_pos c40] at H
                        have c40b0 : (t363.toList == (rdOf ByteArray.empty l1 x12_2).toList) = true := beq_iff_eq.mpr c40
                        have c40b1 : (t363.toList != (rdOf ByteArray.empty l1 x12_2).toList) = false := bne_eq_false_iff_eq.mpr c40
                        clear c40
                        have H' := Aside0.mk H
                        clear H
                        have p356 : 0 ≤ (x12_2 : Int) := of_decide_eq_true (by first | (with_reducible assumption) | assumption)
                        have q356 : x12_2 < (l1.length : Int) := of_decide_eq_true (by first | (with_reducible assumption) | assumption)
                        obtain ⟨ad356, e356, hx356_0⟩ := Kd.at_string HR1.out x12_2 p356 q356
                        cases e356
                        replace hx356_0 := (HB.out.cell (World.block_lt_of_cell? w _ hx356_0)).trans hx356_0
                        replace p356 := eq_true p356
                        replace q356 := eq_true q356
                        go_wp2_with (first | (go_at_call 15; (with_reducible refine (value_Read.calls k2 (rdOf ByteArray.empty l1 x12_2) t357 t358 t359 t360 t361 _ ?side1 ?side2 ?side3 A36.out).mono ?_); (case side1 => first | (with_reducible exact HL_LErr) | exact ⟨LErr.below HL_LErr.out (hbT HB.out)⟩); (case side2 => first | (with_reducible exact HL_LG1) | exact ⟨LG1.below HL_LG1.out (hbT HB.out)⟩); (case side3 => first | (with_reducible exact HL_LSyn) | exact ⟨LSyn.below HL_LSyn.out (hbT HB.out)⟩); rintro e w41 ⟨rfl, hb⟩; replace HB := bsA HB hb; (try clear hb); (try clear hb2); (try clear hk); (try clear hi)) | ((with_reducible refine gate_dst (N := 13) rfl ?_); refine box_event ?hg (N := 13) ?hd (cs := #[.int .i64 0, .int .i64 0, .string (⟨#[]⟩ : ByteArray), .bool false]) (t := 26) ?hr ?_; (case hd => rfl); (case hg => rfl); (case hr => first | (go_simp; done) | (go_simp; rfl)); intro gb362 hg w42 hbox hb; have BK362 := Aside0.mk hbox; have GW362 := geA hg HB; have GE362 := geA hg HB; replace HB := bsA HB hb; clear hb hbox hg; have hcz43_0 : w42.cell? ⟨gb362, 0, none⟩ = some (.int .i64 0) := (blk_cell BK362.out 0).trans rfl; have hcz43_1 : w42.cell? ⟨gb362, 1, none⟩ = some (.int .i64 0) := (blk_cell BK362.out 1).trans rfl; have hcz43_2 : w42.cell? ⟨gb362, 2, none⟩ = some (.string (⟨#[]⟩ : ByteArray)) := (blk_cell BK362.out 2).trans rfl; have hcz43_3 : w42.cell? ⟨gb362, 3, none⟩ = some (.bool false) := (blk_cell BK362.out 3).trans rfl; have hfz43_0 := blk_frozen BK362.out 0; have hfz43_1 := blk_frozen BK362.out 1; have hfz43_2 := blk_frozen BK362.out 2; have hfz43_3 := blk_frozen BK362.out 3) | (go_at_call 13; (with_reducible refine (value_Show.calls t357 t358 t359 t360 t363 t364 _ ?side1 A38.out).mono ?_); (case side1 => first | (with_reducible exact HL_LG1) | exact ⟨LG1.below HL_LG1.out (hbT HB.out)⟩); rintro e w44 ⟨rfl, hb⟩; replace BK362 := Aside0.mk (blk_below (g := gb362) (o := .cells #[.int .i64 t357, .int .i64 t358, .string t359, .bool t360] 26 (0, 0)) (by (with_reducible repeat (first | refine blk_drewN ?_ _ | refine blk_drew ?_ | refine blk_alloc ?_ _)); refine blk_put (cs := #[.int .i64 t357, .int .i64 t358, .string t359, .bool false]) ?_ 3 _ rfl; (with_reducible repeat (first | refine blk_drewN ?_ _ | refine blk_drew ?_ | refine blk_alloc ?_ _)); refine blk_put (cs := #[.int .i64 t357, .int .i64 t358, .string (⟨#[]⟩ : ByteArray), .bool false]) ?_ 2 _ rfl; (with_reducible repeat (first | refine blk_drewN ?_ _ | refine blk_drew ?_ | refine blk_alloc ?_ _)); refine blk_put (cs := #[.int .i64 t357, .int .i64 0, .string (⟨#[]⟩ : ByteArray), .bool false]) ?_ 1 _ rfl; (with_reducible repeat (first | refine blk_drewN ?_ _ | refine blk_drew ?_ | refine blk_alloc ?_ _)); refine blk_put (cs := #[.int .i64 0, .int .i64 0, .string (⟨#[]⟩ : ByteArray), .bool false]) ?_ 0 _ rfl; (with_reducible repeat (first | refine blk_drewN ?_ _ | refine blk_drew ?_ | refine blk_alloc ?_ _)); exact BK362.out) hb); replace HB := bsA HB hb; (try clear hb); (try clear hb2); (try clear hk); (try clear hi); have p365 : 0 ≤ (x12_2 : Int) := of_decide_eq_true (by first | (with_reducible assumption) | assumption); have q365 : x12_2 < (l1.length : Int) := of_decide_eq_true (by first | (with_reducible assumption) | assumption); obtain ⟨ad365, e365, hx365_0⟩ := Kd.at_string HR1.out x12_2 p365 q365; obtain rfl : ad356 = ad365 := (by injection e365); replace hx365_0 := (HB.out.cell (World.block_lt_of_cell? w _ hx365_0)).trans hx365_0; replace p365 := eq_true p365; replace q365 := eq_true q365))
                        repeat (go_quiet (first | (go_at_call 15; (with_reducible refine (value_Read.calls k2 (rdOf ByteArray.empty l1 x12_2) t357 t358 t359 t360 t361 _ ?side1 ?side2 ?side3 A36.out).mono ?_); (case side1 => first | (with_reducible exact HL_LErr) | exact ⟨LErr.below HL_LErr.out (hbT HB.out)⟩); (case side2 => first | (with_reducible exact HL_LG1) | exact ⟨LG1.below HL_LG1.out (hbT HB.out)⟩); (case side3 => first | (with_reducible exact HL_LSyn) | exact ⟨LSyn.below HL_LSyn.out (hbT HB.out)⟩); rintro e w41 ⟨rfl, hb⟩; replace HB := bsA HB hb; (try clear hb); (try clear hb2); (try clear hk); (try clear hi)) | ((with_reducible refine gate_dst (N := 13) rfl ?_); refine box_event ?hg (N := 13) ?hd (cs := #[.int .i64 0, .int .i64 0, .string (⟨#[]⟩ : ByteArray), .bool false]) (t := 26) ?hr ?_; (case hd => rfl); (case hg => rfl); (case hr => first | (go_simp; done) | (go_simp; rfl)); intro gb362 hg w42 hbox hb; have BK362 := Aside0.mk hbox; have GW362 := geA hg HB; have GE362 := geA hg HB; replace HB := bsA HB hb; clear hb hbox hg; have hcz43_0 : w42.cell? ⟨gb362, 0, none⟩ = some (.int .i64 0) := (blk_cell BK362.out 0).trans rfl; have hcz43_1 : w42.cell? ⟨gb362, 1, none⟩ = some (.int .i64 0) := (blk_cell BK362.out 1).trans rfl; have hcz43_2 : w42.cell? ⟨gb362, 2, none⟩ = some (.string (⟨#[]⟩ : ByteArray)) := (blk_cell BK362.out 2).trans rfl; have hcz43_3 : w42.cell? ⟨gb362, 3, none⟩ = some (.bool false) := (blk_cell BK362.out 3).trans rfl; have hfz43_0 := blk_frozen BK362.out 0; have hfz43_1 := blk_frozen BK362.out 1; have hfz43_2 := blk_frozen BK362.out 2; have hfz43_3 := blk_frozen BK362.out 3) | (go_at_call 13; (with_reducible refine (value_Show.calls t357 t358 t359 t360 t363 t364 _ ?side1 A38.out).mono ?_); (case side1 => first | (with_reducible exact HL_LG1) | exact ⟨LG1.below HL_LG1.out (hbT HB.out)⟩); rintro e w44 ⟨rfl, hb⟩; replace BK362 := Aside0.mk (blk_below (g := gb362) (o := .cells #[.int .i64 t357, .int .i64 t358, .string t359, .bool t360] 26 (0, 0)) (by (with_reducible repeat (first | refine blk_drewN ?_ _ | refine blk_drew ?_ | refine blk_alloc ?_ _)); refine blk_put (cs := #[.int .i64 t357, .int .i64 t358, .string t359, .bool false]) ?_ 3 _ rfl; (with_reducible repeat (first | refine blk_drewN ?_ _ | refine blk_drew ?_ | refine blk_alloc ?_ _)); refine blk_put (cs := #[.int .i64 t357, .int .i64 t358, .string (⟨#[]⟩ : ByteArray), .bool false]) ?_ 2 _ rfl; (with_reducible repeat (first | refine blk_drewN ?_ _ | refine blk_drew ?_ | refine blk_alloc ?_ _)); refine blk_put (cs := #[.int .i64 t357, .int .i64 0, .string (⟨#[]⟩ : ByteArray), .bool false]) ?_ 1 _ rfl; (with_reducible repeat (first | refine blk_drewN ?_ _ | refine blk_drew ?_ | refine blk_alloc ?_ _)); refine blk_put (cs := #[.int .i64 0, .int .i64 0, .string (⟨#[]⟩ : ByteArray), .bool false]) ?_ 0 _ rfl; (with_reducible repeat (first | refine blk_drewN ?_ _ | refine blk_drew ?_ | refine blk_alloc ?_ _)); exact BK362.out) hb); replace HB := bsA HB hb; (try clear hb); (try clear hb2); (try clear hk); (try clear hi); have p365 : 0 ≤ (x12_2 : Int) := of_decide_eq_true (by first | (with_reducible assumption) | assumption); have q365 : x12_2 < (l1.length : Int) := of_decide_eq_true (by first | (with_reducible assumption) | assumption); obtain ⟨ad365, e365, hx365_0⟩ := Kd.at_string HR1.out x12_2 p365 q365; obtain rfl : ad356 = ad365 := (by injection e365); replace hx365_0 := (HB.out.cell (World.block_lt_of_cell? w _ hx365_0)).trans hx365_0; replace p365 := eq_true p365; replace q365 := eq_true q365)); try go_wp2_with (first | (go_at_call 15; (with_reducible refine (value_Read.calls k2 (rdOf ByteArray.empty l1 x12_2) t357 t358 t359 t360 t361 _ ?side1 ?side2 ?side3 A36.out).mono ?_); (case side1 => first | (with_reducible exact HL_LErr) | exact ⟨LErr.below HL_LErr.out (hbT HB.out)⟩); (case side2 => first | (with_reducible exact HL_LG1) | exact ⟨LG1.below HL_LG1.out (hbT HB.out)⟩); (case side3 => first | (with_reducible exact HL_LSyn) | exact ⟨LSyn.below HL_LSyn.out (hbT HB.out)⟩); rintro e w41 ⟨rfl, hb⟩; replace HB := bsA HB hb; (try clear hb); (try clear hb2); (try clear hk); (try clear hi)) | ((with_reducible refine gate_dst (N := 13) rfl ?_); refine box_event ?hg (N := 13) ?hd (cs := #[.int .i64 0, .int .i64 0, .string (⟨#[]⟩ : ByteArray), .bool false]) (t := 26) ?hr ?_; (case hd => rfl); (case hg => rfl); (case hr => first | (go_simp; done) | (go_simp; rfl)); intro gb362 hg w42 hbox hb; have BK362 := Aside0.mk hbox; have GW362 := geA hg HB; have GE362 := geA hg HB; replace HB := bsA HB hb; clear hb hbox hg; have hcz43_0 : w42.cell? ⟨gb362, 0, none⟩ = some (.int .i64 0) := (blk_cell BK362.out 0).trans rfl; have hcz43_1 : w42.cell? ⟨gb362, 1, none⟩ = some (.int .i64 0) := (blk_cell BK362.out 1).trans rfl; have hcz43_2 : w42.cell? ⟨gb362, 2, none⟩ = some (.string (⟨#[]⟩ : ByteArray)) := (blk_cell BK362.out 2).trans rfl; have hcz43_3 : w42.cell? ⟨gb362, 3, none⟩ = some (.bool false) := (blk_cell BK362.out 3).trans rfl; have hfz43_0 := blk_frozen BK362.out 0; have hfz43_1 := blk_frozen BK362.out 1; have hfz43_2 := blk_frozen BK362.out 2; have hfz43_3 := blk_frozen BK362.out 3) | (go_at_call 13; (with_reducible refine (value_Show.calls t357 t358 t359 t360 t363 t364 _ ?side1 A38.out).mono ?_); (case side1 => first | (with_reducible exact HL_LG1) | exact ⟨LG1.below HL_LG1.out (hbT HB.out)⟩); rintro e w44 ⟨rfl, hb⟩; replace BK362 := Aside0.mk (blk_below (g := gb362) (o := .cells #[.int .i64 t357, .int .i64 t358, .string t359, .bool t360] 26 (0, 0)) (by (with_reducible repeat (first | refine blk_drewN ?_ _ | refine blk_drew ?_ | refine blk_alloc ?_ _)); refine blk_put (cs := #[.int .i64 t357, .int .i64 t358, .string t359, .bool false]) ?_ 3 _ rfl; (with_reducible repeat (first | refine blk_drewN ?_ _ | refine blk_drew ?_ | refine blk_alloc ?_ _)); refine blk_put (cs := #[.int .i64 t357, .int .i64 t358, .string (⟨#[]⟩ : ByteArray), .bool false]) ?_ 2 _ rfl; (with_reducible repeat (first | refine blk_drewN ?_ _ | refine blk_drew ?_ | refine blk_alloc ?_ _)); refine blk_put (cs := #[.int .i64 t357, .int .i64 0, .string (⟨#[]⟩ : ByteArray), .bool false]) ?_ 1 _ rfl; (with_reducible repeat (first | refine blk_drewN ?_ _ | refine blk_drew ?_ | refine blk_alloc ?_ _)); refine blk_put (cs := #[.int .i64 0, .int .i64 0, .string (⟨#[]⟩ : ByteArray), .bool false]) ?_ 0 _ rfl; (with_reducible repeat (first | refine blk_drewN ?_ _ | refine blk_drew ?_ | refine blk_alloc ?_ _)); exact BK362.out) hb); replace HB := bsA HB hb; (try clear hb); (try clear hb2); (try clear hk); (try clear hi); have p365 : 0 ≤ (x12_2 : Int) := of_decide_eq_true (by first | (with_reducible assumption) | assumption); have q365 : x12_2 < (l1.length : Int) := of_decide_eq_true (by first | (with_reducible assumption) | assumption); obtain ⟨ad365, e365, hx365_0⟩ := Kd.at_string HR1.out x12_2 p365 q365; obtain rfl : ad356 = ad365 := (by injection e365); replace hx365_0 := (HB.out.cell (World.block_lt_of_cell? w _ hx365_0)).trans hx365_0; replace p365 := eq_true p365; replace q365 := eq_true q365)))
                        go_roundg k2
                        case measure => have := HK1.out; have := HK2.out; omega
                        case rel => exact ⟨(wrap64 (x12_2 + 1)), (by first | rfl | (simp; done) | (simp [*]; done) | (simp; unfold wrap64; omega) | (congr 1; (try rw [Bool.eq_iff_iff]); simp [List.isEmpty_iff]; done)), H', ⟨by have := HK1.out; have := HK2.out; omega⟩, ⟨hbT HB.out⟩⟩
                      · rw [if_neg c40] at H
                        have c40b0 : (t363.toList == (rdOf ByteArray.empty l1 x12_2).toList) = false := beq_eq_false_iff_ne.mpr c40
                        have c40b1 : (t363.toList != (rdOf ByteArray.empty l1 x12_2).toList) = true := bne_iff_ne.mpr c40
                        exact absurd ((Option.some.inj H).trans hr.out) Bool.false_ne_true
                    · rw [if_neg c39] at H
                      have c39b0 : (t364 == 0) = false := beq_eq_false_iff_ne.mpr c39
                      have c39b1 : (t364 != 0) = true := bne_iff_ne.mpr c39
                      exact absurd ((Option.some.inj H).trans hr.out) Bool.false_ne_true
                  · rw [if_neg c37] at H
                    have c37b0 : (t361 == 0) = false := beq_eq_false_iff_ne.mpr c37
                    have c37b1 : (t361 != 0) = true := bne_iff_ne.mpr c37
                    have H' := Aside0.mk H
                    clear H
                    have p356 : 0 ≤ (x12_2 : Int) := of_decide_eq_true (by first | (with_reducible assumption) | assumption)
                    have q356 : x12_2 < (l1.length : Int) := of_decide_eq_true (by first | (with_reducible assumption) | assumption)
                    obtain ⟨ad356, e356, hx356_0⟩ := Kd.at_string HR1.out x12_2 p356 q356
                    cases e356
                    replace hx356_0 := (HB.out.cell (World.block_lt_of_cell? w _ hx356_0)).trans hx356_0
                    replace p356 := eq_true p356
                    replace q356 := eq_true q356
                    go_wp2_with (first | (go_at_call 15; (with_reducible refine (value_Read.calls k2 (rdOf ByteArray.empty l1 x12_2) t357 t358 t359 t360 t361 _ ?side1 ?side2 ?side3 A36.out).mono ?_); (case side1 => first | (with_reducible exact HL_LErr) | exact ⟨LErr.below HL_LErr.out (hbT HB.out)⟩); (case side2 => first | (with_reducible exact HL_LG1) | exact ⟨LG1.below HL_LG1.out (hbT HB.out)⟩); (case side3 => first | (with_reducible exact HL_LSyn) | exact ⟨LSyn.below HL_LSyn.out (hbT HB.out)⟩); rintro e w53 ⟨rfl, hb⟩; replace HB := bsA HB hb; (try clear hb); (try clear hb2); (try clear hk); (try clear hi)) | ((with_reducible refine gate_dst (N := 13) rfl ?_); refine box_event ?hg (N := 13) ?hd (cs := #[.int .i64 0, .int .i64 0, .string (⟨#[]⟩ : ByteArray), .bool false]) (t := 26) ?hr ?_; (case hd => rfl); (case hg => rfl); (case hr => first | (go_simp; done) | (go_simp; rfl)); intro gb362 hg w54 hbox hb; have BK362 := Aside0.mk hbox; have GW362 := geA hg HB; have GE362 := geA hg HB; replace HB := bsA HB hb; clear hb hbox hg; have hcz55_0 : w54.cell? ⟨gb362, 0, none⟩ = some (.int .i64 0) := (blk_cell BK362.out 0).trans rfl; have hcz55_1 : w54.cell? ⟨gb362, 1, none⟩ = some (.int .i64 0) := (blk_cell BK362.out 1).trans rfl; have hcz55_2 : w54.cell? ⟨gb362, 2, none⟩ = some (.string (⟨#[]⟩ : ByteArray)) := (blk_cell BK362.out 2).trans rfl; have hcz55_3 : w54.cell? ⟨gb362, 3, none⟩ = some (.bool false) := (blk_cell BK362.out 3).trans rfl; have hfz55_0 := blk_frozen BK362.out 0; have hfz55_1 := blk_frozen BK362.out 1; have hfz55_2 := blk_frozen BK362.out 2; have hfz55_3 := blk_frozen BK362.out 3))
                    repeat (go_quiet (first | (go_at_call 15; (with_reducible refine (value_Read.calls k2 (rdOf ByteArray.empty l1 x12_2) t357 t358 t359 t360 t361 _ ?side1 ?side2 ?side3 A36.out).mono ?_); (case side1 => first | (with_reducible exact HL_LErr) | exact ⟨LErr.below HL_LErr.out (hbT HB.out)⟩); (case side2 => first | (with_reducible exact HL_LG1) | exact ⟨LG1.below HL_LG1.out (hbT HB.out)⟩); (case side3 => first | (with_reducible exact HL_LSyn) | exact ⟨LSyn.below HL_LSyn.out (hbT HB.out)⟩); rintro e w53 ⟨rfl, hb⟩; replace HB := bsA HB hb; (try clear hb); (try clear hb2); (try clear hk); (try clear hi)) | ((with_reducible refine gate_dst (N := 13) rfl ?_); refine box_event ?hg (N := 13) ?hd (cs := #[.int .i64 0, .int .i64 0, .string (⟨#[]⟩ : ByteArray), .bool false]) (t := 26) ?hr ?_; (case hd => rfl); (case hg => rfl); (case hr => first | (go_simp; done) | (go_simp; rfl)); intro gb362 hg w54 hbox hb; have BK362 := Aside0.mk hbox; have GW362 := geA hg HB; have GE362 := geA hg HB; replace HB := bsA HB hb; clear hb hbox hg; have hcz55_0 : w54.cell? ⟨gb362, 0, none⟩ = some (.int .i64 0) := (blk_cell BK362.out 0).trans rfl; have hcz55_1 : w54.cell? ⟨gb362, 1, none⟩ = some (.int .i64 0) := (blk_cell BK362.out 1).trans rfl; have hcz55_2 : w54.cell? ⟨gb362, 2, none⟩ = some (.string (⟨#[]⟩ : ByteArray)) := (blk_cell BK362.out 2).trans rfl; have hcz55_3 : w54.cell? ⟨gb362, 3, none⟩ = some (.bool false) := (blk_cell BK362.out 3).trans rfl; have hfz55_0 := blk_frozen BK362.out 0; have hfz55_1 := blk_frozen BK362.out 1; have hfz55_2 := blk_frozen BK362.out 2; have hfz55_3 := blk_frozen BK362.out 3)); try go_wp2_with (first | (go_at_call 15; (with_reducible refine (value_Read.calls k2 (rdOf ByteArray.empty l1 x12_2) t357 t358 t359 t360 t361 _ ?side1 ?side2 ?side3 A36.out).mono ?_); (case side1 => first | (with_reducible exact HL_LErr) | exact ⟨LErr.below HL_LErr.out (hbT HB.out)⟩); (case side2 => first | (with_reducible exact HL_LG1) | exact ⟨LG1.below HL_LG1.out (hbT HB.out)⟩); (case side3 => first | (with_reducible exact HL_LSyn) | exact ⟨LSyn.below HL_LSyn.out (hbT HB.out)⟩); rintro e w53 ⟨rfl, hb⟩; replace HB := bsA HB hb; (try clear hb); (try clear hb2); (try clear hk); (try clear hi)) | ((with_reducible refine gate_dst (N := 13) rfl ?_); refine box_event ?hg (N := 13) ?hd (cs := #[.int .i64 0, .int .i64 0, .string (⟨#[]⟩ : ByteArray), .bool false]) (t := 26) ?hr ?_; (case hd => rfl); (case hg => rfl); (case hr => first | (go_simp; done) | (go_simp; rfl)); intro gb362 hg w54 hbox hb; have BK362 := Aside0.mk hbox; have GW362 := geA hg HB; have GE362 := geA hg HB; replace HB := bsA HB hb; clear hb hbox hg; have hcz55_0 : w54.cell? ⟨gb362, 0, none⟩ = some (.int .i64 0) := (blk_cell BK362.out 0).trans rfl; have hcz55_1 : w54.cell? ⟨gb362, 1, none⟩ = some (.int .i64 0) := (blk_cell BK362.out 1).trans rfl; have hcz55_2 : w54.cell? ⟨gb362, 2, none⟩ = some (.string (⟨#[]⟩ : ByteArray)) := (blk_cell BK362.out 2).trans rfl; have hcz55_3 : w54.cell? ⟨gb362, 3, none⟩ = some (.bool false) := (blk_cell BK362.out 3).trans rfl; have hfz55_0 := blk_frozen BK362.out 0; have hfz55_1 := blk_frozen BK362.out 1; have hfz55_2 := blk_frozen BK362.out 2; have hfz55_3 := blk_frozen BK362.out 3)))
                    go_roundg k2
                    case measure => have := HK1.out; have := HK2.out; omega
                    case rel => exact ⟨(wrap64 (x12_2 + 1)), (by first | rfl | (simp; done) | (simp [*]; done) | (simp; unfold wrap64; omega) | (congr 1; (try rw [Bool.eq_iff_iff]); simp [List.isEmpty_iff]; done)), H', ⟨by have := HK1.out; have := HK2.out; omega⟩, ⟨hbT HB.out⟩⟩
                · rw [if_neg c35] at H
                  exact absurd H (by simp)
              · rw [if_neg c34] at H
                have c34b0 : decide (x12_2 < (l1.length : Int)) = false := decide_eq_false c34
                clear c34
                obtain rfl := Option.some.inj H
                go_wp2
                repeat (go_quiet (fail); try go_wp2)
                go_ret
                exact ⟨by first | rfl | (simp [errW_none, errW_some] <;> rfl) | (simp [*, errW_none, errW_some] <;> rfl), hbT HB.out⟩
  · replace c4 := Bool.eq_false_iff.mpr c4
    subst c4
    have H1 : (some false) = some r := by rw [if_neg (show ¬ (false = true) by decide)] at H; exact H
    clear H
    have H := H1
    clear H1
    exact absurd ((Option.some.inj H).trans hr.out) Bool.false_ne_true

/-! ### refrainlaw1_yes: function 25 -/
def refrainlaw1_yes.f (k : Nat) (a0 : Int) (a1_0 : Int) (a1_1 : Int) (a1_2 : ByteArray) (a1_3 : Bool) (a2_0 : Int) (a2_1 : Int) (a2_2 : ByteArray) (a2_3 : Bool) (a3 : Bool) : Option (Bool) := (value_Binary.f k a0 a1_0 a1_1 a1_2 a1_3 a2_0 a2_1 a2_2 a2_3).bind fun bt368 => (if bt368.2.2.2.2 = 0 then (some (bt368.1 == 3 && (bt368.2.1 == 0 && (bt368.2.2.1.toList == ([] : List UInt8) && (bt368.2.2.2.1 == a3))))) else (some false))
set_option maxRecDepth 100000 in
theorem refrainlaw1_yes.mono : ∀ a0 a1 a2 a3 a4 a5 a6 a7 a8 a9 k, LeO (refrainlaw1_yes.f k a0 a1 a2 a3 a4 a5 a6 a7 a8 a9) (refrainlaw1_yes.f (k + 1) a0 a1 a2 a3 a4 a5 a6 a7 a8 a9) := by
  intro a0 a1 a2 a3 a4 a5 a6 a7 a8 a9 k
  unfold refrainlaw1_yes.f
  repeat' first
      | (with_reducible exact value_Binary.mono _ _ _ _ _ _ _ _ _ _)
      | (with_reducible exact LeO.refl _)
      | (with_reducible exact LeO.none _)
      | (with_reducible refine LeO.ite ?_ ?_)
      | (with_reducible refine LeO.bind ?_ (fun _ => ?_))
      | exact value_Binary.mono _ _ _ _ _ _ _ _ _ _
      | exact LeO.none _
      | refine LeO.ite ?_ ?_
      | refine LeO.bind ?_ (fun _ => ?_)
set_option maxHeartbeats 8000000 in
set_option maxRecDepth 100000 in
theorem refrainlaw1_yes.calls (k : Nat) (a0 : Int) (a1_0 : Int) (a1_1 : Int) (a1_2 : ByteArray) (a1_3 : Bool) (a2_0 : Int) (a2_1 : Int) (a2_2 : ByteArray) (a2_3 : Bool) (a3 : Bool) (r : Bool) (w : World) (HL_LG0 : Aside0 (LG0 w)) (h : refrainlaw1_yes.f k a0 a1_0 a1_1 a1_2 a1_3 a2_0 a2_1 a2_2 a2_3 a3 = some r) (hr : r = true) :
    Calls Tryd.prog 25 #[.int .i64 a0, .agg #[.int .i64 a1_0, .int .i64 a1_1, .string a1_2, .bool a1_3], .agg #[.int .i64 a2_0, .int .i64 a2_1, .string a2_2, .bool a2_3], .bool a3] w fun e w' => e = .returned (.bool r) ∧ Below w.heap.size w w' := by
  replace hr := Aside0.mk hr
  have hu26 := Tryd.underlying26
  have HB := Aside0.mk (Below.refl w.heap.size w)
  have H : ((value_Binary.f k a0 a1_0 a1_1 a1_2 a1_3 a2_0 a2_1 a2_2 a2_3).bind fun bt368 => (if bt368.2.2.2.2 = 0 then (some (bt368.1 == 3 && (bt368.2.1 == 0 && (bt368.2.2.1.toList == ([] : List UInt8) && (bt368.2.2.2.1 == a3))))) else (some false))) = some r := h
  clear h
  replace H := Option.bind_eq_some_iff.mp H
  obtain ⟨⟨t368, t369, t370, t371, t372⟩, A50, H⟩ := H
  replace H : (if t372 = 0 then (some (t368 == 3 && (t369 == 0 && (t370.toList == ([] : List UInt8) && (t371 == a3))))) else (some false)) = some r := H
  have A5 := Aside0.mk A50
  clear A50
  by_cases c6 : t372 = 0
  · rw [if_pos c6] at H
    have c6b0 : (t372 == 0) = true := beq_iff_eq.mpr c6
    have c6b1 : (t372 != 0) = false := bne_eq_false_iff_eq.mpr c6
    clear c6
    obtain rfl := Option.some.inj H
    go_enter Tryd.func25, Tryd.ntmps25
    go_wp2_with (first | ((with_reducible refine gate_dst (N := 5) rfl ?_); refine box_event ?hg (N := 5) ?hd (cs := #[.int .i64 a1_0, .int .i64 a1_1, .string a1_2, .bool a1_3]) (t := 26) ?hr ?_; (case hd => rfl); (case hg => rfl); (case hr => first | (go_simp; done) | (go_simp; rfl)); intro gb366 hg w7 hbox hb; have BK366 := Aside0.mk hbox; have GW366 := geA hg HB; have GE366 := geA hg HB; replace HB := bsA HB hb; clear hb hbox hg) | ((with_reducible refine gate_dst (N := 6) rfl ?_); refine box_event ?hg (N := 6) ?hd (cs := #[.int .i64 a2_0, .int .i64 a2_1, .string a2_2, .bool a2_3]) (t := 26) ?hr ?_; (case hd => rfl); (case hg => rfl); (case hr => first | (go_simp; done) | (go_simp; rfl)); intro gb367 hg w8 hbox hb; have BK367 := Aside0.mk hbox; have GW367 := geA hg HB; have GE367 := geA hg HB; have NB366_367 := neA hg BK366; have NB367_366 := neB hg BK366; replace BK366 := bbA BK366 hb; replace HB := bsA HB hb; clear hb hbox hg; have hnb9 := NB366_367.out; have hnc9 := NB367_366.out; have hcz10_0 : w8.cell? ⟨gb366, 0, none⟩ = some (.int .i64 a1_0) := (blk_cell BK366.out 0).trans rfl; have hcz10_1 : w8.cell? ⟨gb366, 1, none⟩ = some (.int .i64 a1_1) := (blk_cell BK366.out 1).trans rfl; have hcz10_2 : w8.cell? ⟨gb366, 2, none⟩ = some (.string a1_2) := (blk_cell BK366.out 2).trans rfl; have hcz10_3 : w8.cell? ⟨gb366, 3, none⟩ = some (.bool a1_3) := (blk_cell BK366.out 3).trans rfl; have hfz10_0 := blk_frozen BK366.out 0; have hfz10_1 := blk_frozen BK366.out 1; have hfz10_2 := blk_frozen BK366.out 2; have hfz10_3 := blk_frozen BK366.out 3; have hcz11_0 : w8.cell? ⟨gb367, 0, none⟩ = some (.int .i64 a2_0) := (blk_cell BK367.out 0).trans rfl; have hcz11_1 : w8.cell? ⟨gb367, 1, none⟩ = some (.int .i64 a2_1) := (blk_cell BK367.out 1).trans rfl; have hcz11_2 : w8.cell? ⟨gb367, 2, none⟩ = some (.string a2_2) := (blk_cell BK367.out 2).trans rfl; have hcz11_3 : w8.cell? ⟨gb367, 3, none⟩ = some (.bool a2_3) := (blk_cell BK367.out 3).trans rfl; have hfz11_0 := blk_frozen BK367.out 0; have hfz11_1 := blk_frozen BK367.out 1; have hfz11_2 := blk_frozen BK367.out 2; have hfz11_3 := blk_frozen BK367.out 3) | ((with_reducible refine gate_callee (f := 20) rfl ?_); refine goesT (some 15) Tryd.func20 #[.int .i64 a0, .agg #[.int .i64 a1_0, .int .i64 a1_1, .string a1_2, .bool a1_3], .agg #[.int .i64 a2_0, .int .i64 a2_1, .string a2_2, .bool a2_3]] ?_; (with_reducible refine (value_Binary.calls k a0 a1_0 a1_1 a1_2 a1_3 a2_0 a2_1 a2_2 a2_3 t368 t369 t370 t371 t372 _ ?side1 A5.out).mono ?_); (case side1 => first | (with_reducible exact HL_LG0) | exact ⟨LG0.below HL_LG0.out (hbT HB.out)⟩); rintro e w12 ⟨rfl, hb⟩; refine ⟨_, rfl, ?_⟩; replace BK366 := bbA BK366 hb; replace BK367 := bbA BK367 hb; replace HB := bsA HB hb; (try clear hb); (try clear hb2); (try clear hk); (try clear hi)) | ((with_reducible refine gate_dst (N := 9) rfl ?_); refine box_event ?hg (N := 9) ?hd (cs := #[.int .i64 0, .int .i64 0, .string (⟨#[]⟩ : ByteArray), .bool false]) (t := 26) ?hr ?_; (case hd => rfl); (case hg => rfl); (case hr => first | (go_simp; done) | (go_simp; rfl)); intro gb373 hg w13 hbox hb; have BK373 := Aside0.mk hbox; have GW373 := geA hg HB; have GE373 := geA hg HB; have NB366_373 := neA hg BK366; have NB373_366 := neB hg BK366; have NB367_373 := neA hg BK367; have NB373_367 := neB hg BK367; replace BK366 := bbA BK366 hb; replace BK367 := bbA BK367 hb; replace HB := bsA HB hb; clear hb hbox hg; have hnb14 := NB373_366.out; have hnc14 := NB366_373.out; have hnb15 := NB373_367.out; have hnc15 := NB367_373.out; have hcz16_0 : w13.cell? ⟨gb373, 0, none⟩ = some (.int .i64 0) := (blk_cell BK373.out 0).trans rfl; have hcz16_1 : w13.cell? ⟨gb373, 1, none⟩ = some (.int .i64 0) := (blk_cell BK373.out 1).trans rfl; have hcz16_2 : w13.cell? ⟨gb373, 2, none⟩ = some (.string (⟨#[]⟩ : ByteArray)) := (blk_cell BK373.out 2).trans rfl; have hcz16_3 : w13.cell? ⟨gb373, 3, none⟩ = some (.bool false) := (blk_cell BK373.out 3).trans rfl; have hfz16_0 := blk_frozen BK373.out 0; have hfz16_1 := blk_frozen BK373.out 1; have hfz16_2 := blk_frozen BK373.out 2; have hfz16_3 := blk_frozen BK373.out 3))
    go_ret
    exact ⟨by first | rfl | (simp [errW_none, errW_some] <;> rfl) | (simp [*, errW_none, errW_some] <;> rfl), hbT HB.out⟩
  · rw [if_neg c6] at H
    have c6b0 : (t372 == 0) = false := beq_eq_false_iff_ne.mpr c6
    have c6b1 : (t372 != 0) = true := bne_iff_ne.mpr c6
    exact absurd ((Option.some.inj H).trans hr.out) Bool.false_ne_true

end Go.Proofs.YthhpeeckiggpaaaDoor.Pr

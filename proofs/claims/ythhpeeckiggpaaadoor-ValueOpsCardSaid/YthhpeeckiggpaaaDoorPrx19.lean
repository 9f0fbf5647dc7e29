-- printed by a patched copy of the kit's print, for this seat
import Derived.Test.YthhpeeckiggpaaaDoorPrx0
import Derived.Test.YthhpeeckiggpaaaDoorPrx1
import Derived.Test.YthhpeeckiggpaaaDoorPrx7
import Derived.Test.YthhpeeckiggpaaaDoorPrx8
import Derived.Test.YthhpeeckiggpaaaDoorPrx16
import Derived.Test.YthhpeeckiggpaaaDoorPrx18
import Derived.Test.YthhpeeckiggpaaaDoorExtRB
namespace Go.Proofs.YthhpeeckiggpaaaDoor.Pr
open Go.RowKit Go.Proofs.YthhpeeckiggpaaaDoorW.PrintWords Go.Proofs.YthhpeeckiggpaaaDoorW.PrintLast Go.Proofs.YthhpeeckiggpaaaDoorW.PrintMore
attribute [local go_sem] max2_int min2_int max_two min_two max_three min_three max_four min_four   -- for this text's walks alone
attribute [local go_sem high] Go.Proofs.YthhpeeckiggpaaaDoor.isSome_setCell
set_option maxRecDepth 100000
set_option linter.unusedVariables false
set_option linter.unusedSimpArgs false

attribute [local go_sem high] eqA26
/-! ### refrainlaw1_ValueOps: function 7 -/
mutual
def refrainlaw1_ValueOps.l0 : Nat → List Int → List (S26) → Int → Option (Bool)
  | 0, _, _, _ => none
  | k + 1, x0, x1, x6 => if x6 < (x1.length : Int) then (refrainlaw1_ValueOps.l1 k x0 x1 x6 0) else (some true)
def refrainlaw1_ValueOps.l1 : Nat → List Int → List (S26) → Int → Int → Option (Bool)
  | 0, _, _, _, _ => none
  | k + 1, x0, x1, x6, x7 => if x7 < (x1.length : Int) then (if 0 ≤ x6 then (if x6 < (x1.length : Int) then (if 0 ≤ x7 then ((value_Compare.f k ((rd_T26 x1 x6).f0) ((rd_T26 x1 x6).f1) ((rd_T26 x1 x6).f2) ((rd_T26 x1 x6).f3) ((rd_T26 x1 x7).f0) ((rd_T26 x1 x7).f1) ((rd_T26 x1 x7).f2) ((rd_T26 x1 x7).f3)).bind fun t430 => ((refrainref1_Compare.f k ((rd_T26 x1 x6).f0) ((rd_T26 x1 x6).f1) ((rd_T26 x1 x6).f2) ((rd_T26 x1 x6).f3) ((rd_T26 x1 x7).f0) ((rd_T26 x1 x7).f1) ((rd_T26 x1 x7).f2) ((rd_T26 x1 x7).f3)).bind fun t433 => (if t430 = t433 then (refrainlaw1_ValueOps.l2 k x0 x1 x6 x7 0) else (some false)))) else (none)) else (none)) else (none)) else (refrainlaw1_ValueOps.l0 k x0 x1 (wrap64 (x6 + 1)))
def refrainlaw1_ValueOps.l2 : Nat → List Int → List (S26) → Int → Int → Int → Option (Bool)
  | 0, _, _, _, _, _ => none
  | k + 1, x0, x1, x6, x7, x10 => if x10 < (x0.length : Int) then (if 0 ≤ x10 then (if 0 ≤ x6 then (if x6 < (x1.length : Int) then (if 0 ≤ x7 then (if x7 < (x1.length : Int) then ((value_Binary.f k (rd x0 x10) ((rd_T26 x1 x6).f0) ((rd_T26 x1 x6).f1) ((rd_T26 x1 x6).f2) ((rd_T26 x1 x6).f3) ((rd_T26 x1 x7).f0) ((rd_T26 x1 x7).f1) ((rd_T26 x1 x7).f2) ((rd_T26 x1 x7).f3)).bind fun bt437 => ((refrainref1_Binary.f (rd x0 x10) ((rd_T26 x1 x6).f0) ((rd_T26 x1 x6).f1) ((rd_T26 x1 x6).f2) ((rd_T26 x1 x6).f3) ((rd_T26 x1 x7).f0) ((rd_T26 x1 x7).f1) ((rd_T26 x1 x7).f2) ((rd_T26 x1 x7).f3)).bind fun bt446 => ((value_Unary.f k (rd x0 x10) ((rd_T26 x1 x6).f0) ((rd_T26 x1 x6).f1) ((rd_T26 x1 x6).f2) ((rd_T26 x1 x6).f3)).bind fun bt454 => ((refrainref1_Unary.f k (rd x0 x10) ((rd_T26 x1 x6).f0) ((rd_T26 x1 x6).f1) ((rd_T26 x1 x6).f2) ((rd_T26 x1 x6).f3)).bind fun bt462 => (if (!(bt437.1 == bt446.1) || (!(bt437.2.1 == bt446.2.1) || (!(bt437.2.2.1.toList == bt446.2.2.1.toList) || (!(bt437.2.2.2.1 == bt446.2.2.2.1))))) = true then (some false) else (if bt437.2.2.2.2 = bt446.2.2.2.2 then (if (!(bt454.1 == bt462.1) || (!(bt454.2.1 == bt462.2.1) || (!(bt454.2.2.1.toList == bt462.2.2.1.toList) || (!(bt454.2.2.2.1 == bt462.2.2.2.1))))) = true then (some false) else (if bt454.2.2.2.2 = bt462.2.2.2.2 then (refrainlaw1_ValueOps.l2 k x0 x1 x6 x7 (wrap64 (x10 + 1))) else (some false))) else (some false))))))) else (none)) else (none)) else (none)) else (none)) else (none)) else (refrainlaw1_ValueOps.l1 k x0 x1 x6 (wrap64 (x7 + 1)))
end
def refrainlaw1_ValueOps.f (k : Nat) (l0 : List Int) (l1 : List (S26)) : Option (Bool) := (refrainlaw1_begun.f k).bind fun t427 => (if t427 = true then (refrainlaw1_ValueOps.l0 k l0 l1 0) else (some false))
set_option maxRecDepth 100000 in
theorem refrainlaw1_ValueOps.l0_zero : ∀ y0 y1 y2, refrainlaw1_ValueOps.l0 0 y0 y1 y2 = none := fun _ _ _ => rfl
set_option maxRecDepth 100000 in
theorem refrainlaw1_ValueOps.l1_zero : ∀ y0 y1 y2 y3, refrainlaw1_ValueOps.l1 0 y0 y1 y2 y3 = none := fun _ _ _ _ => rfl
set_option maxRecDepth 100000 in
theorem refrainlaw1_ValueOps.l2_zero : ∀ y0 y1 y2 y3 y4, refrainlaw1_ValueOps.l2 0 y0 y1 y2 y3 y4 = none := fun _ _ _ _ _ => rfl
set_option maxRecDepth 100000 in
theorem refrainlaw1_ValueOps.mono_l : ∀ k, (∀ y0 y1 y2, LeO (refrainlaw1_ValueOps.l0 k y0 y1 y2) (refrainlaw1_ValueOps.l0 (k + 1) y0 y1 y2)) ∧ (∀ y0 y1 y2 y3, LeO (refrainlaw1_ValueOps.l1 k y0 y1 y2 y3) (refrainlaw1_ValueOps.l1 (k + 1) y0 y1 y2 y3)) ∧ (∀ y0 y1 y2 y3 y4, LeO (refrainlaw1_ValueOps.l2 k y0 y1 y2 y3 y4) (refrainlaw1_ValueOps.l2 (k + 1) y0 y1 y2 y3 y4))
  | 0 => ⟨fun _ _ _ r h => by (unfold refrainlaw1_ValueOps.l0 at h; cases h), fun _ _ _ _ r h => by (unfold refrainlaw1_ValueOps.l1 at h; cases h), fun _ _ _ _ _ r h => by (unfold refrainlaw1_ValueOps.l2 at h; cases h)⟩
  | k + 1 => by
    obtain ⟨ih0, ih1, ih2⟩ := refrainlaw1_ValueOps.mono_l k
    refine ⟨?_, ?_, ?_⟩
    · intro y0 y1 y2
      unfold refrainlaw1_ValueOps.l0
      repeat' first
      | (with_reducible exact ih0 _ _ _)
      | (with_reducible exact ih1 _ _ _ _)
      | (with_reducible exact ih2 _ _ _ _ _)
      | (with_reducible exact refrainlaw1_begun.mono _)
      | (with_reducible exact refrainref1_Compare.mono _ _ _ _ _ _ _ _ _)
      | (with_reducible exact refrainref1_Unary.mono _ _ _ _ _ _)
      | (with_reducible exact value_Binary.mono _ _ _ _ _ _ _ _ _ _)
      | (with_reducible exact value_Compare.mono _ _ _ _ _ _ _ _ _)
      | (with_reducible exact value_Unary.mono _ _ _ _ _ _)
      | (with_reducible exact LeO.refl _)
      | (with_reducible exact LeO.none _)
      | (with_reducible refine LeO.ite ?_ ?_)
      | (with_reducible refine LeO.bind ?_ (fun _ => ?_))
      | exact ih0 _ _ _
      | exact ih1 _ _ _ _
      | exact ih2 _ _ _ _ _
      | exact refrainlaw1_begun.mono _
      | exact refrainref1_Compare.mono _ _ _ _ _ _ _ _ _
      | exact refrainref1_Unary.mono _ _ _ _ _ _
      | exact value_Binary.mono _ _ _ _ _ _ _ _ _ _
      | exact value_Compare.mono _ _ _ _ _ _ _ _ _
      | exact value_Unary.mono _ _ _ _ _ _
      | exact LeO.none _
      | refine LeO.ite ?_ ?_
      | refine LeO.bind ?_ (fun _ => ?_)
    · intro y0 y1 y2 y3
      unfold refrainlaw1_ValueOps.l1
      repeat' first
      | (with_reducible exact ih0 _ _ _)
      | (with_reducible exact ih1 _ _ _ _)
      | (with_reducible exact ih2 _ _ _ _ _)
      | (with_reducible exact refrainlaw1_begun.mono _)
      | (with_reducible exact refrainref1_Compare.mono _ _ _ _ _ _ _ _ _)
      | (with_reducible exact refrainref1_Unary.mono _ _ _ _ _ _)
      | (with_reducible exact value_Binary.mono _ _ _ _ _ _ _ _ _ _)
      | (with_reducible exact value_Compare.mono _ _ _ _ _ _ _ _ _)
      | (with_reducible exact value_Unary.mono _ _ _ _ _ _)
      | (with_reducible exact LeO.refl _)
      | (with_reducible exact LeO.none _)
      | (with_reducible refine LeO.ite ?_ ?_)
      | (with_reducible refine LeO.bind ?_ (fun _ => ?_))
      | exact ih0 _ _ _
      | exact ih1 _ _ _ _
      | exact ih2 _ _ _ _ _
      | exact refrainlaw1_begun.mono _
      | exact refrainref1_Compare.mono _ _ _ _ _ _ _ _ _
      | exact refrainref1_Unary.mono _ _ _ _ _ _
      | exact value_Binary.mono _ _ _ _ _ _ _ _ _ _
      | exact value_Compare.mono _ _ _ _ _ _ _ _ _
      | exact value_Unary.mono _ _ _ _ _ _
      | exact LeO.none _
      | refine LeO.ite ?_ ?_
      | refine LeO.bind ?_ (fun _ => ?_)
    · intro y0 y1 y2 y3 y4
      unfold refrainlaw1_ValueOps.l2
      repeat' first
      | (with_reducible exact ih0 _ _ _)
      | (with_reducible exact ih1 _ _ _ _)
      | (with_reducible exact ih2 _ _ _ _ _)
      | (with_reducible exact refrainlaw1_begun.mono _)
      | (with_reducible exact refrainref1_Compare.mono _ _ _ _ _ _ _ _ _)
      | (with_reducible exact refrainref1_Unary.mono _ _ _ _ _ _)
      | (with_reducible exact value_Binary.mono _ _ _ _ _ _ _ _ _ _)
      | (with_reducible exact value_Compare.mono _ _ _ _ _ _ _ _ _)
      | (with_reducible exact value_Unary.mono _ _ _ _ _ _)
      | (with_reducible exact LeO.refl _)
      | (with_reducible exact LeO.none _)
      | (with_reducible refine LeO.ite ?_ ?_)
      | (with_reducible refine LeO.bind ?_ (fun _ => ?_))
      | exact ih0 _ _ _
      | exact ih1 _ _ _ _
      | exact ih2 _ _ _ _ _
      | exact refrainlaw1_begun.mono _
      | exact refrainref1_Compare.mono _ _ _ _ _ _ _ _ _
      | exact refrainref1_Unary.mono _ _ _ _ _ _
      | exact value_Binary.mono _ _ _ _ _ _ _ _ _ _
      | exact value_Compare.mono _ _ _ _ _ _ _ _ _
      | exact value_Unary.mono _ _ _ _ _ _
      | exact LeO.none _
      | refine LeO.ite ?_ ?_
      | refine LeO.bind ?_ (fun _ => ?_)
set_option maxRecDepth 100000 in
theorem refrainlaw1_ValueOps.mono : ∀ a0 a1 k, LeO (refrainlaw1_ValueOps.f k a0 a1) (refrainlaw1_ValueOps.f (k + 1) a0 a1) := by
  intro a0 a1 k
  obtain ⟨ih0, ih1, ih2⟩ := refrainlaw1_ValueOps.mono_l k
  unfold refrainlaw1_ValueOps.f
  repeat' first
      | (with_reducible exact ih0 _ _ _)
      | (with_reducible exact ih1 _ _ _ _)
      | (with_reducible exact ih2 _ _ _ _ _)
      | (with_reducible exact refrainlaw1_begun.mono _)
      | (with_reducible exact refrainref1_Compare.mono _ _ _ _ _ _ _ _ _)
      | (with_reducible exact refrainref1_Unary.mono _ _ _ _ _ _)
      | (with_reducible exact value_Binary.mono _ _ _ _ _ _ _ _ _ _)
      | (with_reducible exact value_Compare.mono _ _ _ _ _ _ _ _ _)
      | (with_reducible exact value_Unary.mono _ _ _ _ _ _)
      | (with_reducible exact LeO.refl _)
      | (with_reducible exact LeO.none _)
      | (with_reducible refine LeO.ite ?_ ?_)
      | (with_reducible refine LeO.bind ?_ (fun _ => ?_))
      | exact ih0 _ _ _
      | exact ih1 _ _ _ _
      | exact ih2 _ _ _ _ _
      | exact refrainlaw1_begun.mono _
      | exact refrainref1_Compare.mono _ _ _ _ _ _ _ _ _
      | exact refrainref1_Unary.mono _ _ _ _ _ _
      | exact value_Binary.mono _ _ _ _ _ _ _ _ _ _
      | exact value_Compare.mono _ _ _ _ _ _ _ _ _
      | exact value_Unary.mono _ _ _ _ _ _
      | exact LeO.none _
      | refine LeO.ite ?_ ?_
      | refine LeO.bind ?_ (fun _ => ?_)
def refrainlaw1_ValueOps.T10 : Bool × List (List Nat × List Nat) := (true, [([], []), ([], []), ([0, 1], [0, 1]), ([2], [2]), ([], []), ([], []), ([4, 5], [4, 5]), ([6], [6]), ([3, 7], [3, 7]), ([8, 8, 0, 1, 2, 3, 4, 5, 6, 7, 8], [8])])
def refrainlaw1_ValueOps.B10 : List Nat := [0, 0, 3, 7, 0, 0, 48, 112, 255, 511]
theorem refrainlaw1_ValueOps.tab10 : rtab .any (opsOf Tryd.f7 10) = refrainlaw1_ValueOps.T10 := by kernel_rfl
theorem refrainlaw1_ValueOps.bits10 : waitsOk refrainlaw1_ValueOps.T10.2 refrainlaw1_ValueOps.B10 = true := by kernel_rfl
def refrainlaw1_ValueOps.T11 : Bool × List (List Nat × List Nat) := (true, [([], []), ([], []), ([0, 1], [0, 1]), ([2], [2]), ([], []), ([], []), ([4, 5], [4, 5]), ([6], [6]), ([3, 7], [3, 7]), ([8, 8, 0, 1, 2, 3, 4, 5, 6, 7, 8], [8])])
def refrainlaw1_ValueOps.B11 : List Nat := [0, 0, 3, 7, 0, 0, 48, 112, 255, 511]
theorem refrainlaw1_ValueOps.tab11 : rtab .any (opsOf Tryd.f7 11) = refrainlaw1_ValueOps.T11 := by kernel_rfl
theorem refrainlaw1_ValueOps.bits11 : waitsOk refrainlaw1_ValueOps.T11.2 refrainlaw1_ValueOps.B11 = true := by kernel_rfl
def refrainlaw1_ValueOps.T17 : Bool × List (List Nat × List Nat) := (true, [([], []), ([], []), ([0, 1], [0, 1]), ([2], [2]), ([], []), ([], []), ([4, 5], [4, 5]), ([6], [6]), ([], []), ([], []), ([8, 9], [8, 9]), ([10], [10]), ([3, 7, 11], [3, 7, 11]), ([12], [12]), ([13], [13]), ([13], [13]), ([], []), ([16, 14, 12, 0, 1, 2, 3, 4, 5, 6, 7, 8, 9, 10, 11, 12, 13, 14, 16], [14, 16]), ([15, 17, 0, 1, 2, 3, 4, 5, 6, 7, 8, 9, 10, 11, 12, 13, 14, 15, 16, 17], [15])])
def refrainlaw1_ValueOps.B17 : List Nat := [0, 0, 3, 7, 0, 0, 48, 112, 0, 0, 768, 1792, 4095, 8191, 16383, 16383, 0, 98303, 262143]
theorem refrainlaw1_ValueOps.tab17 : rtab .any (opsOf Tryd.f7 17) = refrainlaw1_ValueOps.T17 := by kernel_rfl
theorem refrainlaw1_ValueOps.bits17 : waitsOk refrainlaw1_ValueOps.T17.2 refrainlaw1_ValueOps.B17 = true := by kernel_rfl
def refrainlaw1_ValueOps.T18 : Bool × List (List Nat × List Nat) := (true, [([], []), ([], []), ([0, 1], [0, 1]), ([2], [2]), ([], []), ([], []), ([4, 5], [4, 5]), ([6], [6]), ([], []), ([], []), ([8, 9], [8, 9]), ([10], [10]), ([3, 7, 11], [3, 7, 11]), ([12], [12]), ([13], [13]), ([13], [13]), ([], []), ([16, 14, 12, 0, 1, 2, 3, 4, 5, 6, 7, 8, 9, 10, 11, 12, 13, 14, 16], [14, 16]), ([15, 17, 0, 1, 2, 3, 4, 5, 6, 7, 8, 9, 10, 11, 12, 13, 14, 15, 16, 17], [15])])
def refrainlaw1_ValueOps.B18 : List Nat := [0, 0, 3, 7, 0, 0, 48, 112, 0, 0, 768, 1792, 4095, 8191, 16383, 16383, 0, 98303, 262143]
theorem refrainlaw1_ValueOps.tab18 : rtab .any (opsOf Tryd.f7 18) = refrainlaw1_ValueOps.T18 := by kernel_rfl
theorem refrainlaw1_ValueOps.bits18 : waitsOk refrainlaw1_ValueOps.T18.2 refrainlaw1_ValueOps.B18 = true := by kernel_rfl
def refrainlaw1_ValueOps.T19 : Bool × List (List Nat × List Nat) := (true, [([], []), ([], []), ([0, 1], [0, 1]), ([2], [2]), ([], []), ([], []), ([4, 5], [4, 5]), ([6], [6]), ([3, 7], [3, 7]), ([8], [8]), ([9], [9]), ([9], [9]), ([], []), ([12, 10, 8, 0, 1, 2, 3, 4, 5, 6, 7, 8, 9, 10, 12], [10, 12]), ([11, 13, 0, 1, 2, 3, 4, 5, 6, 7, 8, 9, 10, 11, 12, 13], [11])])
def refrainlaw1_ValueOps.B19 : List Nat := [0, 0, 3, 7, 0, 0, 48, 112, 255, 511, 1023, 1023, 0, 6143, 16383]
theorem refrainlaw1_ValueOps.tab19 : rtab .any (opsOf Tryd.f7 19) = refrainlaw1_ValueOps.T19 := by kernel_rfl
theorem refrainlaw1_ValueOps.bits19 : waitsOk refrainlaw1_ValueOps.T19.2 refrainlaw1_ValueOps.B19 = true := by kernel_rfl
def refrainlaw1_ValueOps.T20 : Bool × List (List Nat × List Nat) := (true, [([], []), ([], []), ([0, 1], [0, 1]), ([2], [2]), ([], []), ([], []), ([4, 5], [4, 5]), ([6], [6]), ([3, 7], [3, 7]), ([8], [8]), ([9], [9]), ([9], [9]), ([], []), ([12, 10, 8, 0, 1, 2, 3, 4, 5, 6, 7, 8, 9, 10, 12], [10, 12]), ([11, 13, 0, 1, 2, 3, 4, 5, 6, 7, 8, 9, 10, 11, 12, 13], [11])])
def refrainlaw1_ValueOps.B20 : List Nat := [0, 0, 3, 7, 0, 0, 48, 112, 255, 511, 1023, 1023, 0, 6143, 16383]
theorem refrainlaw1_ValueOps.tab20 : rtab .any (opsOf Tryd.f7 20) = refrainlaw1_ValueOps.T20 := by kernel_rfl
theorem refrainlaw1_ValueOps.bits20 : waitsOk refrainlaw1_ValueOps.T20.2 refrainlaw1_ValueOps.B20 = true := by kernel_rfl
set_option maxHeartbeats 8000000 in
set_option maxRecDepth 100000 in
theorem refrainlaw1_ValueOps.calls (k : Nat) (A0 : Option Addr) (c0 : Nat) (l0 : List Int) (A1 : Option Addr) (c1 : Nat) (l1 : List (S26)) (r : Bool) (w : World) (hr0 : Kd.C (Kd.int .i64) w A0 l0.length l0) (hc0 : l0.length ≤ c0) (hr1 : Kd.C k26 w A1 l1.length l1) (hc1 : l1.length ≤ c1) (HL_LErr : Aside0 (LErr w)) (HL_LG0 : Aside0 (LG0 w)) (HL_LG1 : Aside0 (LG1 w)) (HL_LSyn : Aside0 (LSyn w)) (h : refrainlaw1_ValueOps.f k l0 l1 = some r) (hr : r = true) :
    Calls Tryd.prog 7 #[.slice A0 l0.length c0, .slice A1 l1.length c1] w fun e w' => e = .returned (.bool r) ∧ Below w.heap.size w w' := by
  replace hr := Aside0.mk hr
  have hu26 := Tryd.underlying26
  have HR0 := Aside0.mk hr0
  have HC0 := Aside0.mk hc0
  clear hr0 hc0
  have HR1 := Aside0.mk hr1
  have HC1 := Aside0.mk hc1
  clear hr1 hc1
  have HB := Aside0.mk (Below.refl w.heap.size w)
  have H : ((refrainlaw1_begun.f k).bind fun t427 => (if t427 = true then (refrainlaw1_ValueOps.l0 k l0 l1 0) else (some false))) = some r := h
  clear h
  replace H := Option.bind_eq_some_iff.mp H
  obtain ⟨t427, A30, H⟩ := H
  replace H : (if t427 = true then (refrainlaw1_ValueOps.l0 k l0 l1 0) else (some false)) = some r := H
  have A3 := Aside0.mk A30
  clear A30
  by_cases c4 : t427 = true
  · subst c4
    have H1 : (refrainlaw1_ValueOps.l0 k l0 l1 0) = some r := by rw [if_pos rfl] at H; exact H
    clear H
    have H := H1
    clear H1
    have H' := Aside0.mk H
    clear H
    go_enter Tryd.func7, Tryd.ntmps7
    go_wp2_with (first | ((with_reducible refine gate_callee (f := 10) rfl ?_); refine goesL_ (some 19) rfl rfl Tryd.func10 (by kernel_rfl) rfl #[] rfl (by (try simp only [List.map_toArray, List.map_cons, List.map_nil]); first | done | rfl | (simp only [List.length_drop, List.length_take]; rfl)) ?_; (with_reducible refine (refrainlaw1_begun.calls k  true _ ?side1 ?side2 ?side3 ?side4 A3.out (by first | rfl | exact hr.out)).mono ?_); (case side1 => first | (with_reducible exact HL_LErr) | exact ⟨LErr.below HL_LErr.out (by repeat (first | (with_reducible first | exact HB.out | apply below_alloc | apply pw_below_drewN | apply below_drew1) | exact HB.out))⟩); (case side2 => first | (with_reducible exact HL_LG0) | exact ⟨LG0.below HL_LG0.out (by repeat (first | (with_reducible first | exact HB.out | apply below_alloc | apply pw_below_drewN | apply below_drew1) | exact HB.out))⟩); (case side3 => first | (with_reducible exact HL_LG1) | exact ⟨LG1.below HL_LG1.out (by repeat (first | (with_reducible first | exact HB.out | apply below_alloc | apply pw_below_drewN | apply below_drew1) | exact HB.out))⟩); (case side4 => first | (with_reducible exact HL_LSyn) | exact ⟨LSyn.below HL_LSyn.out (by repeat (first | (with_reducible first | exact HB.out | apply below_alloc | apply pw_below_drewN | apply below_drew1) | exact HB.out))⟩); rintro e w5 ⟨rfl, hb⟩; refine ⟨_, rfl, ?_⟩; have n0_ := Aside0.mk (below_step (by repeat (first | (with_reducible first | exact HB.out | apply below_alloc | apply pw_below_drewN | apply below_drew1) | exact HB.out)) hb); clear HB; have HB := n0_; clear n0_; (try clear hb); (try clear hb2); (try clear hk); (try clear hi)))
    go_loopg [6] k (fun kq v6 w' => ∃ (x6_1 : Int), v6 = .int .i64 x6_1 ∧ Aside0 (refrainlaw1_ValueOps.l0 kq l0 l1 x6_1 = some r) ∧ Aside0 (kq ≤ k) ∧ Aside0 (Below w.heap.size w w'))
    case atStart => exact ⟨(0), (by first | rfl | (simp; done) | (simp [*]; done) | (simp; unfold wrap64; omega)), H', ⟨Nat.le_refl _⟩, ⟨by repeat (first | (with_reducible first | exact HB.out | apply below_alloc | apply pw_below_drewN | apply below_drew1) | exact HB.out)⟩⟩
    case round =>
      clear H'
      try clear c1
      try clear p2
      try clear c4
      obtain ⟨x6_1, rfl, HA, HK1, HB⟩ := hrel
      cases gk with
      | zero => (have HA2 := HA.out; clear HA; revert HA2; rw [refrainlaw1_ValueOps.l0_zero]; intro h_; cases h_)
      | succ k1 =>
        have H := HA.out
        clear HA
        simp only [refrainlaw1_ValueOps.l0] at H
        by_cases c6 : x6_1 < (l1.length : Int)
        · rw [if_pos c6] at H
          have c6b0 : decide (x6_1 < (l1.length : Int)) = true := decide_eq_true c6
          clear c6
          have H' := Aside0.mk H
          clear H
          go_wp2
          go_loopg [7] k1 (fun kq v7 w' => ∃ (x7_2 : Int), v7 = .int .i64 x7_2 ∧ Aside0 (refrainlaw1_ValueOps.l1 kq l0 l1 x6_1 x7_2 = some r) ∧ Aside0 (kq ≤ k1) ∧ Aside0 (Below w.heap.size w w'))
          case atStart => exact ⟨(0), (by first | rfl | (simp; done) | (simp [*]; done) | (simp; unfold wrap64; omega)), H', ⟨Nat.le_refl _⟩, ⟨by repeat (first | (with_reducible first | exact HB.out | apply below_alloc | apply pw_below_drewN | apply below_drew1) | exact HB.out)⟩⟩
          case round =>
            clear H'
            try clear c1
            try clear p2
            try clear c4
            try clear c6
            try clear c6b0
            try clear p2
            obtain ⟨x7_2, rfl, HA, HK2, HB⟩ := hrel
            cases gk with
            | zero => (have HA2 := HA.out; clear HA; revert HA2; rw [refrainlaw1_ValueOps.l1_zero]; intro h_; cases h_)
            | succ k2 =>
              have H := HA.out
              clear HA
              simp only [refrainlaw1_ValueOps.l1] at H
              by_cases c7 : x7_2 < (l1.length : Int)
              · rw [if_pos c7] at H
                have c7b0 : decide (x7_2 < (l1.length : Int)) = true := decide_eq_true c7
                clear c7
                by_cases c8 : 0 ≤ x6_1
                · rw [if_pos c8] at H
                  have c8b0 : decide (0 ≤ x6_1) = true := decide_eq_true c8
                  clear c8
                  by_cases c9 : x6_1 < (l1.length : Int)
                  · rw [if_pos c9] at H
                    have c9b0 : decide (x6_1 < (l1.length : Int)) = true := decide_eq_true c9
                    clear c9
                    by_cases c10 : 0 ≤ x7_2
                    · rw [if_pos c10] at H
                      have c10b0 : decide (0 ≤ x7_2) = true := decide_eq_true c10
                      clear c10
                      replace H := Option.bind_eq_some_iff.mp H
                      obtain ⟨t430, A110, H⟩ := H
                      replace H : ((refrainref1_Compare.f k2 ((rd_T26 l1 x6_1).f0) ((rd_T26 l1 x6_1).f1) ((rd_T26 l1 x6_1).f2) ((rd_T26 l1 x6_1).f3) ((rd_T26 l1 x7_2).f0) ((rd_T26 l1 x7_2).f1) ((rd_T26 l1 x7_2).f2) ((rd_T26 l1 x7_2).f3)).bind fun t433 => (if t430 = t433 then (refrainlaw1_ValueOps.l2 k2 l0 l1 x6_1 x7_2 0) else (some false))) = some r := H
                      have A11 := Aside0.mk A110
                      clear A110
                      replace H := Option.bind_eq_some_iff.mp H
                      obtain ⟨t433, A120, H⟩ := H
                      replace H : (if t430 = t433 then (refrainlaw1_ValueOps.l2 k2 l0 l1 x6_1 x7_2 0) else (some false)) = some r := H
                      have A12 := Aside0.mk A120
                      clear A120
                      by_cases c13 : t430 = t433
                      · rw [if_pos c13] at H
                        have c13b0 : (t430 == t433) = true := beq_iff_eq.mpr c13
                        have c13b1 : (t430 != t433) = false := bne_eq_false_iff_eq.mpr c13
                        clear c13
                        have H' := Aside0.mk H
                        clear H
                        try go_wp2
                        have n0_ := Aside0.mk (below_drew1 HB.out)
                        clear HB
                        have HB := n0_
                        clear n0_
                        have p428 : 0 ≤ (x6_1 : Int) := of_decide_eq_true (by first | (with_reducible assumption) | assumption)
                        have q428 : x6_1 < (l1.length : Int) := of_decide_eq_true (by first | (with_reducible assumption) | assumption)
                        obtain ⟨ad428, e428, hx428_0, hx428_1, hx428_2, hx428_3⟩ := at_T26 HR1.out x6_1 p428 q428
                        have hw428_3 := hx428_3
                        have hw428_2 := hx428_2
                        have hw428_1 := hx428_1
                        have hw428_0 := hx428_0
                        cases e428
                        replace hx428_0 := (HB.out.cell (World.block_lt_of_cell? w _ hx428_0)).trans hx428_0
                        replace hx428_1 := (HB.out.cell (World.block_lt_of_cell? w _ hx428_1)).trans hx428_1
                        replace hx428_2 := (HB.out.cell (World.block_lt_of_cell? w _ hx428_2)).trans hx428_2
                        replace hx428_3 := (HB.out.cell (World.block_lt_of_cell? w _ hx428_3)).trans hx428_3
                        replace p428 := eq_true p428
                        replace q428 := eq_true q428
                        have p429 : 0 ≤ (x7_2 : Int) := of_decide_eq_true (by first | (with_reducible assumption) | assumption)
                        have q429 : x7_2 < (l1.length : Int) := of_decide_eq_true (by first | (with_reducible assumption) | assumption)
                        obtain ⟨ad429, e429, hx429_0, hx429_1, hx429_2, hx429_3⟩ := at_T26 HR1.out x7_2 p429 q429
                        have hw429_3 := hx429_3
                        have hw429_2 := hx429_2
                        have hw429_1 := hx429_1
                        have hw429_0 := hx429_0
                        obtain rfl : ad428 = ad429 := (by injection e429)
                        replace hx429_0 := (HB.out.cell (World.block_lt_of_cell? w _ hx429_0)).trans hx429_0
                        replace hx429_1 := (HB.out.cell (World.block_lt_of_cell? w _ hx429_1)).trans hx429_1
                        replace hx429_2 := (HB.out.cell (World.block_lt_of_cell? w _ hx429_2)).trans hx429_2
                        replace hx429_3 := (HB.out.cell (World.block_lt_of_cell? w _ hx429_3)).trans hx429_3
                        replace p429 := eq_true p429
                        replace q429 := eq_true q429
                        refine start_ (n := 10) (S := fun w' => w'.cell? (ad428.add ((x6_1).toNat * 4)) = some (.int .i64 ((rd_T26 l1 x6_1).f0)) ∧ w'.cell? ⟨(ad428.add ((x6_1).toNat * 4)).block, (ad428.add ((x6_1).toNat * 4)).off + 1, none⟩ = some (.int .i64 ((rd_T26 l1 x6_1).f1)) ∧ w'.cell? ⟨(ad428.add ((x6_1).toNat * 4)).block, (ad428.add ((x6_1).toNat * 4)).off + 2, none⟩ = some (.string ((rd_T26 l1 x6_1).f2)) ∧ w'.cell? ⟨(ad428.add ((x6_1).toNat * 4)).block, (ad428.add ((x6_1).toNat * 4)).off + 3, none⟩ = some (.bool ((rd_T26 l1 x6_1).f3)) ∧ w'.cell? (ad428.add ((x7_2).toNat * 4)) = some (.int .i64 ((rd_T26 l1 x7_2).f0)) ∧ w'.cell? ⟨(ad428.add ((x7_2).toNat * 4)).block, (ad428.add ((x7_2).toNat * 4)).off + 1, none⟩ = some (.int .i64 ((rd_T26 l1 x7_2).f1)) ∧ w'.cell? ⟨(ad428.add ((x7_2).toNat * 4)).block, (ad428.add ((x7_2).toNat * 4)).off + 2, none⟩ = some (.string ((rd_T26 l1 x7_2).f2)) ∧ w'.cell? ⟨(ad428.add ((x7_2).toNat * 4)).block, (ad428.add ((x7_2).toNat * 4)).off + 3, none⟩ = some (.bool ((rd_T26 l1 x7_2).f3))) (ds := []) #[false, false, false, false, false, false, false, false, false, false] (by kernel_rfl) rfl rfl ⟨((HB.out.cell (World.block_lt_of_cell? w _ hw428_0)).trans hw428_0), ((HB.out.cell (World.block_lt_of_cell? w _ hw428_1)).trans hw428_1), ((HB.out.cell (World.block_lt_of_cell? w _ hw428_2)).trans hw428_2), ((HB.out.cell (World.block_lt_of_cell? w _ hw428_3)).trans hw428_3), ((HB.out.cell (World.block_lt_of_cell? w _ hw429_0)).trans hw429_0), ((HB.out.cell (World.block_lt_of_cell? w _ hw429_1)).trans hw429_1), ((HB.out.cell (World.block_lt_of_cell? w _ hw429_2)).trans hw429_2), ((HB.out.cell (World.block_lt_of_cell? w _ hw429_3)).trans hw429_3)⟩ (fun hHeld => ?_); refine with_tabW refrainlaw1_ValueOps.tab10 refrainlaw1_ValueOps.bits10 (fun HT_ HW_ => ?_)
                        generalize wr.drew = w14 at HB hx428_0 hx428_1 hx428_2 hx428_3 hx429_0 hx429_1 hx429_2 hx429_3 hHeld ⊢
                        refine pure_ (i := 0) (N := some 34) (v := ?_) (a' := ?_) #[true, false, false, false, false, false, false, false, false, false] rfl rfl (any_of HT_.out (by kernel_rfl)) (fun _ _ _ h => h) (Or.inl ⟨by rfl, ?_⟩) ?_ ?_
                        rotate_left
                        · intro w'
                          go_simp
                          with_reducible rfl
                        rotate_left
                        · simp only [Act.put, List.setIfInBounds_toArray, List.set_cons_zero, List.set_cons_succ, i64_w, i32_w, IntKind.wrap_u8, IntKind.wrap_u16, IntKind.wrap_u32]
                          rfl
                        refine pure_ (i := 1) (N := some 35) (v := ?_) (a' := ?_) #[true, true, false, false, false, false, false, false, false, false] rfl rfl (any_of HT_.out (by kernel_rfl)) (fun _ _ _ h => h) (Or.inl ⟨by rfl, ?_⟩) ?_ ?_
                        rotate_left
                        · intro w'
                          go_simp
                          with_reducible rfl
                        rotate_left
                        · simp only [Act.put, List.setIfInBounds_toArray, List.set_cons_zero, List.set_cons_succ, i64_w, i32_w, IntKind.wrap_u8, IntKind.wrap_u16, IntKind.wrap_u32]
                          rfl
                        refine pure_ (i := 2) (N := some 36) (v := ?_) (a' := ?_) #[true, true, true, false, false, false, false, false, false, false] rfl rfl (any_of HT_.out (by kernel_rfl)) (fun _ _ _ h => h) (Or.inl ⟨by rfl, ?_⟩) ?_ ?_
                        rotate_left
                        · intro w'
                          go_simp
                          with_reducible rfl
                        rotate_left
                        · simp only [Act.put, List.setIfInBounds_toArray, List.set_cons_zero, List.set_cons_succ, i64_w, i32_w, IntKind.wrap_u8, IntKind.wrap_u16, IntKind.wrap_u32]
                          rfl
                        refine pure_ (i := 4) (N := some 38) (v := ?_) (a' := ?_) #[true, true, true, false, true, false, false, false, false, false] rfl rfl (any_of HT_.out (by kernel_rfl)) (fun _ _ _ h => h) (Or.inl ⟨by rfl, ?_⟩) ?_ ?_
                        rotate_left
                        · intro w'
                          go_simp
                          with_reducible rfl
                        rotate_left
                        · simp only [Act.put, List.setIfInBounds_toArray, List.set_cons_zero, List.set_cons_succ, i64_w, i32_w, IntKind.wrap_u8, IntKind.wrap_u16, IntKind.wrap_u32]
                          rfl
                        refine pure_ (i := 5) (N := some 39) (v := ?_) (a' := ?_) #[true, true, true, false, true, true, false, false, false, false] rfl rfl (any_of HT_.out (by kernel_rfl)) (fun _ _ _ h => h) (Or.inl ⟨by rfl, ?_⟩) ?_ ?_
                        rotate_left
                        · intro w'
                          go_simp
                          with_reducible rfl
                        rotate_left
                        · simp only [Act.put, List.setIfInBounds_toArray, List.set_cons_zero, List.set_cons_succ, i64_w, i32_w, IntKind.wrap_u8, IntKind.wrap_u16, IntKind.wrap_u32]
                          rfl
                        refine pure_ (i := 6) (N := some 40) (v := ?_) (a' := ?_) #[true, true, true, false, true, true, true, false, false, false] rfl rfl (any_of HT_.out (by kernel_rfl)) (fun _ _ _ h => h) (Or.inl ⟨by rfl, ?_⟩) ?_ ?_
                        rotate_left
                        · intro w'
                          go_simp
                          with_reducible rfl
                        rotate_left
                        · simp only [Act.put, List.setIfInBounds_toArray, List.set_cons_zero, List.set_cons_succ, i64_w, i32_w, IntKind.wrap_u8, IntKind.wrap_u16, IntKind.wrap_u32]
                          rfl
                        refine take_ (i := 3) (N := some 37) (v := ?_) (a' := ?_) #[true, true, true, true, true, true, true, false, false, false] rfl rfl (take_ofW HT_.out HW_.out (by kernel_rfl)) (fun _ _ _ h => h) (Or.inl ⟨by rfl, ?_⟩) hHeld ?_ ?_
                        rotate_left
                        · rintro w' ⟨s0, s1, s2, s3, s4, s5, s6, s7⟩
                          go_simp
                          with_reducible rfl
                        rotate_left
                        · simp only [Act.put, List.setIfInBounds_toArray, List.set_cons_zero, List.set_cons_succ, i64_w, i32_w, IntKind.wrap_u8, IntKind.wrap_u16, IntKind.wrap_u32]
                          rfl
                        refine take_ (i := 7) (N := some 41) (v := ?_) (a' := ?_) #[true, true, true, true, true, true, true, true, false, false] rfl rfl (take_ofW HT_.out HW_.out (by kernel_rfl)) (fun _ _ _ h => h) (Or.inl ⟨by rfl, ?_⟩) hHeld ?_ ?_
                        rotate_left
                        · rintro w' ⟨s0, s1, s2, s3, s4, s5, s6, s7⟩
                          go_simp
                          with_reducible rfl
                        rotate_left
                        · simp only [Act.put, List.setIfInBounds_toArray, List.set_cons_zero, List.set_cons_succ, i64_w, i32_w, IntKind.wrap_u8, IntKind.wrap_u16, IntKind.wrap_u32]
                          rfl
                        refine one_ (i := 8) (N := some 42) #[true, true, true, true, true, true, true, true, true, false] rfl rfl (one_of HT_.out (by kernel_rfl)) (by decide) (fun K hK => ?_)
                        refine goes_ Tryd.func17 (by kernel_rfl) rfl #[.agg #[.int .i64 ((rd_T26 l1 x6_1).f0), .int .i64 ((rd_T26 l1 x6_1).f1), .string ((rd_T26 l1 x6_1).f2), .bool ((rd_T26 l1 x6_1).f3)], .agg #[.int .i64 ((rd_T26 l1 x7_2).f0), .int .i64 ((rd_T26 l1 x7_2).f1), .string ((rd_T26 l1 x7_2).f2), .bool ((rd_T26 l1 x7_2).f3)]] (by rfl) rfl rfl (by (try simp only [List.map_toArray, List.map_cons, List.map_nil]); first | done | rfl | (simp only [List.length_drop, List.length_take]; rfl)) ?_
                        with_reducible refine (value_Compare.calls k2 ((rd_T26 l1 x6_1).f0) ((rd_T26 l1 x6_1).f1) ((rd_T26 l1 x6_1).f2) ((rd_T26 l1 x6_1).f3) ((rd_T26 l1 x7_2).f0) ((rd_T26 l1 x7_2).f1) ((rd_T26 l1 x7_2).f2) ((rd_T26 l1 x7_2).f3) t430 _ A11.out).mono ?_
                        rintro e w15 ⟨rfl, hb⟩
                        refine ⟨_, rfl, ?_⟩
                        have n0_ := Aside0.mk (below_step (by repeat (first | (with_reducible first | exact HB.out | apply below_alloc | apply pw_below_drewN | apply below_drew1) | exact HB.out)) hb)
                        clear HB
                        have HB := n0_
                        clear n0_
                        (try clear hb)
                        (try clear hb2)
                        (try clear hk)
                        (try clear hi)
                        refine hK.out _ _ ⟨((HB.out.cell (World.block_lt_of_cell? w _ hw428_0)).trans hw428_0), ((HB.out.cell (World.block_lt_of_cell? w _ hw428_1)).trans hw428_1), ((HB.out.cell (World.block_lt_of_cell? w _ hw428_2)).trans hw428_2), ((HB.out.cell (World.block_lt_of_cell? w _ hw428_3)).trans hw428_3), ((HB.out.cell (World.block_lt_of_cell? w _ hw429_0)).trans hw429_0), ((HB.out.cell (World.block_lt_of_cell? w _ hw429_1)).trans hw429_1), ((HB.out.cell (World.block_lt_of_cell? w _ hw429_2)).trans hw429_2), ((HB.out.cell (World.block_lt_of_cell? w _ hw429_3)).trans hw429_3)⟩ (fun hHeld => ?_)
                        clear hK K
                        refine norm_ (a' := ?_) ?_ ?_
                        rotate_left
                        · show Act.put _ (some 42) _ = _
                          simp only [Act.put, List.setIfInBounds_toArray, List.set_cons_zero, List.set_cons_succ, i64_w, i32_w, IntKind.wrap_u8, IntKind.wrap_u16, IntKind.wrap_u32]
                          rfl
                        refine pure_ (i := 9) (N := some 8) (v := ?_) (a' := ?_) #[true, true, true, true, true, true, true, true, true, true] rfl rfl (any_of HT_.out (by kernel_rfl)) (fun _ _ _ h => h) (Or.inl ⟨by rfl, ?_⟩) ?_ ?_
                        rotate_left
                        · intro w'
                          go_simp
                          with_reducible rfl
                        rotate_left
                        · simp only [Act.put, List.setIfInBounds_toArray, List.set_cons_zero, List.set_cons_succ, i64_w, i32_w, IntKind.wrap_u8, IntKind.wrap_u16, IntKind.wrap_u32]
                          rfl
                        refine done_ (done_of HT_.out (by kernel_rfl)) ?_
                        try go_wp2
                        have n0_ := Aside0.mk (below_drew1 HB.out)
                        clear HB
                        have HB := n0_
                        clear n0_
                        have p431 : 0 ≤ (x6_1 : Int) := of_decide_eq_true (by first | (with_reducible assumption) | assumption)
                        have q431 : x6_1 < (l1.length : Int) := of_decide_eq_true (by first | (with_reducible assumption) | assumption)
                        obtain ⟨ad431, e431, hx431_0, hx431_1, hx431_2, hx431_3⟩ := at_T26 HR1.out x6_1 p431 q431
                        have hw431_3 := hx431_3
                        have hw431_2 := hx431_2
                        have hw431_1 := hx431_1
                        have hw431_0 := hx431_0
                        obtain rfl : ad428 = ad431 := (by injection e431)
                        replace hx431_0 := (HB.out.cell (World.block_lt_of_cell? w _ hx431_0)).trans hx431_0
                        replace hx431_1 := (HB.out.cell (World.block_lt_of_cell? w _ hx431_1)).trans hx431_1
                        replace hx431_2 := (HB.out.cell (World.block_lt_of_cell? w _ hx431_2)).trans hx431_2
                        replace hx431_3 := (HB.out.cell (World.block_lt_of_cell? w _ hx431_3)).trans hx431_3
                        replace p431 := eq_true p431
                        replace q431 := eq_true q431
                        have p432 : 0 ≤ (x7_2 : Int) := of_decide_eq_true (by first | (with_reducible assumption) | assumption)
                        have q432 : x7_2 < (l1.length : Int) := of_decide_eq_true (by first | (with_reducible assumption) | assumption)
                        obtain ⟨ad432, e432, hx432_0, hx432_1, hx432_2, hx432_3⟩ := at_T26 HR1.out x7_2 p432 q432
                        have hw432_3 := hx432_3
                        have hw432_2 := hx432_2
                        have hw432_1 := hx432_1
                        have hw432_0 := hx432_0
                        obtain rfl : ad428 = ad432 := (by injection e432)
                        replace hx432_0 := (HB.out.cell (World.block_lt_of_cell? w _ hx432_0)).trans hx432_0
                        replace hx432_1 := (HB.out.cell (World.block_lt_of_cell? w _ hx432_1)).trans hx432_1
                        replace hx432_2 := (HB.out.cell (World.block_lt_of_cell? w _ hx432_2)).trans hx432_2
                        replace hx432_3 := (HB.out.cell (World.block_lt_of_cell? w _ hx432_3)).trans hx432_3
                        replace p432 := eq_true p432
                        replace q432 := eq_true q432
                        refine start_ (n := 10) (S := fun w' => w'.cell? (ad428.add ((x6_1).toNat * 4)) = some (.int .i64 ((rd_T26 l1 x6_1).f0)) ∧ w'.cell? ⟨(ad428.add ((x6_1).toNat * 4)).block, (ad428.add ((x6_1).toNat * 4)).off + 1, none⟩ = some (.int .i64 ((rd_T26 l1 x6_1).f1)) ∧ w'.cell? ⟨(ad428.add ((x6_1).toNat * 4)).block, (ad428.add ((x6_1).toNat * 4)).off + 2, none⟩ = some (.string ((rd_T26 l1 x6_1).f2)) ∧ w'.cell? ⟨(ad428.add ((x6_1).toNat * 4)).block, (ad428.add ((x6_1).toNat * 4)).off + 3, none⟩ = some (.bool ((rd_T26 l1 x6_1).f3)) ∧ w'.cell? (ad428.add ((x7_2).toNat * 4)) = some (.int .i64 ((rd_T26 l1 x7_2).f0)) ∧ w'.cell? ⟨(ad428.add ((x7_2).toNat * 4)).block, (ad428.add ((x7_2).toNat * 4)).off + 1, none⟩ = some (.int .i64 ((rd_T26 l1 x7_2).f1)) ∧ w'.cell? ⟨(ad428.add ((x7_2).toNat * 4)).block, (ad428.add ((x7_2).toNat * 4)).off + 2, none⟩ = some (.string ((rd_T26 l1 x7_2).f2)) ∧ w'.cell? ⟨(ad428.add ((x7_2).toNat * 4)).block, (ad428.add ((x7_2).toNat * 4)).off + 3, none⟩ = some (.bool ((rd_T26 l1 x7_2).f3))) (ds := []) #[false, false, false, false, false, false, false, false, false, false] (by kernel_rfl) rfl rfl ⟨((HB.out.cell (World.block_lt_of_cell? w _ hw431_0)).trans hw431_0), ((HB.out.cell (World.block_lt_of_cell? w _ hw431_1)).trans hw431_1), ((HB.out.cell (World.block_lt_of_cell? w _ hw431_2)).trans hw431_2), ((HB.out.cell (World.block_lt_of_cell? w _ hw431_3)).trans hw431_3), ((HB.out.cell (World.block_lt_of_cell? w _ hw432_0)).trans hw432_0), ((HB.out.cell (World.block_lt_of_cell? w _ hw432_1)).trans hw432_1), ((HB.out.cell (World.block_lt_of_cell? w _ hw432_2)).trans hw432_2), ((HB.out.cell (World.block_lt_of_cell? w _ hw432_3)).trans hw432_3)⟩ (fun hHeld => ?_); refine with_tabW refrainlaw1_ValueOps.tab11 refrainlaw1_ValueOps.bits11 (fun HT_ HW_ => ?_)
                        generalize w15.drew = w16 at HB hx431_0 hx431_1 hx431_2 hx431_3 hx432_0 hx432_1 hx432_2 hx432_3 hHeld ⊢
                        refine pure_ (i := 0) (N := some 43) (v := ?_) (a' := ?_) #[true, false, false, false, false, false, false, false, false, false] rfl rfl (any_of HT_.out (by kernel_rfl)) (fun _ _ _ h => h) (Or.inl ⟨by rfl, ?_⟩) ?_ ?_
                        rotate_left
                        · intro w'
                          go_simp
                          with_reducible rfl
                        rotate_left
                        · simp only [Act.put, List.setIfInBounds_toArray, List.set_cons_zero, List.set_cons_succ, i64_w, i32_w, IntKind.wrap_u8, IntKind.wrap_u16, IntKind.wrap_u32]
                          rfl
                        refine pure_ (i := 1) (N := some 44) (v := ?_) (a' := ?_) #[true, true, false, false, false, false, false, false, false, false] rfl rfl (any_of HT_.out (by kernel_rfl)) (fun _ _ _ h => h) (Or.inl ⟨by rfl, ?_⟩) ?_ ?_
                        rotate_left
                        · intro w'
                          go_simp
                          with_reducible rfl
                        rotate_left
                        · simp only [Act.put, List.setIfInBounds_toArray, List.set_cons_zero, List.set_cons_succ, i64_w, i32_w, IntKind.wrap_u8, IntKind.wrap_u16, IntKind.wrap_u32]
                          rfl
                        refine pure_ (i := 2) (N := some 45) (v := ?_) (a' := ?_) #[true, true, true, false, false, false, false, false, false, false] rfl rfl (any_of HT_.out (by kernel_rfl)) (fun _ _ _ h => h) (Or.inl ⟨by rfl, ?_⟩) ?_ ?_
                        rotate_left
                        · intro w'
                          go_simp
                          with_reducible rfl
                        rotate_left
                        · simp only [Act.put, List.setIfInBounds_toArray, List.set_cons_zero, List.set_cons_succ, i64_w, i32_w, IntKind.wrap_u8, IntKind.wrap_u16, IntKind.wrap_u32]
                          rfl
                        refine pure_ (i := 4) (N := some 47) (v := ?_) (a' := ?_) #[true, true, true, false, true, false, false, false, false, false] rfl rfl (any_of HT_.out (by kernel_rfl)) (fun _ _ _ h => h) (Or.inl ⟨by rfl, ?_⟩) ?_ ?_
                        rotate_left
                        · intro w'
                          go_simp
                          with_reducible rfl
                        rotate_left
                        · simp only [Act.put, List.setIfInBounds_toArray, List.set_cons_zero, List.set_cons_succ, i64_w, i32_w, IntKind.wrap_u8, IntKind.wrap_u16, IntKind.wrap_u32]
                          rfl
                        refine pure_ (i := 5) (N := some 48) (v := ?_) (a' := ?_) #[true, true, true, false, true, true, false, false, false, false] rfl rfl (any_of HT_.out (by kernel_rfl)) (fun _ _ _ h => h) (Or.inl ⟨by rfl, ?_⟩) ?_ ?_
                        rotate_left
                        · intro w'
                          go_simp
                          with_reducible rfl
                        rotate_left
                        · simp only [Act.put, List.setIfInBounds_toArray, List.set_cons_zero, List.set_cons_succ, i64_w, i32_w, IntKind.wrap_u8, IntKind.wrap_u16, IntKind.wrap_u32]
                          rfl
                        refine pure_ (i := 6) (N := some 49) (v := ?_) (a' := ?_) #[true, true, true, false, true, true, true, false, false, false] rfl rfl (any_of HT_.out (by kernel_rfl)) (fun _ _ _ h => h) (Or.inl ⟨by rfl, ?_⟩) ?_ ?_
                        rotate_left
                        · intro w'
                          go_simp
                          with_reducible rfl
                        rotate_left
                        · simp only [Act.put, List.setIfInBounds_toArray, List.set_cons_zero, List.set_cons_succ, i64_w, i32_w, IntKind.wrap_u8, IntKind.wrap_u16, IntKind.wrap_u32]
                          rfl
                        refine take_ (i := 3) (N := some 46) (v := ?_) (a' := ?_) #[true, true, true, true, true, true, true, false, false, false] rfl rfl (take_ofW HT_.out HW_.out (by kernel_rfl)) (fun _ _ _ h => h) (Or.inl ⟨by rfl, ?_⟩) hHeld ?_ ?_
                        rotate_left
                        · rintro w' ⟨s0, s1, s2, s3, s4, s5, s6, s7⟩
                          go_simp
                          with_reducible rfl
                        rotate_left
                        · simp only [Act.put, List.setIfInBounds_toArray, List.set_cons_zero, List.set_cons_succ, i64_w, i32_w, IntKind.wrap_u8, IntKind.wrap_u16, IntKind.wrap_u32]
                          rfl
                        refine take_ (i := 7) (N := some 50) (v := ?_) (a' := ?_) #[true, true, true, true, true, true, true, true, false, false] rfl rfl (take_ofW HT_.out HW_.out (by kernel_rfl)) (fun _ _ _ h => h) (Or.inl ⟨by rfl, ?_⟩) hHeld ?_ ?_
                        rotate_left
                        · rintro w' ⟨s0, s1, s2, s3, s4, s5, s6, s7⟩
                          go_simp
                          with_reducible rfl
                        rotate_left
                        · simp only [Act.put, List.setIfInBounds_toArray, List.set_cons_zero, List.set_cons_succ, i64_w, i32_w, IntKind.wrap_u8, IntKind.wrap_u16, IntKind.wrap_u32]
                          rfl
                        refine one_ (i := 8) (N := some 51) #[true, true, true, true, true, true, true, true, true, false] rfl rfl (one_of HT_.out (by kernel_rfl)) (by decide) (fun K hK => ?_)
                        refine goes_ Tryd.func19 (by kernel_rfl) rfl #[.agg #[.int .i64 ((rd_T26 l1 x6_1).f0), .int .i64 ((rd_T26 l1 x6_1).f1), .string ((rd_T26 l1 x6_1).f2), .bool ((rd_T26 l1 x6_1).f3)], .agg #[.int .i64 ((rd_T26 l1 x7_2).f0), .int .i64 ((rd_T26 l1 x7_2).f1), .string ((rd_T26 l1 x7_2).f2), .bool ((rd_T26 l1 x7_2).f3)]] (by rfl) rfl rfl (by (try simp only [List.map_toArray, List.map_cons, List.map_nil]); first | done | rfl | (simp only [List.length_drop, List.length_take]; rfl)) ?_
                        with_reducible refine (refrainref1_Compare.calls k2 ((rd_T26 l1 x6_1).f0) ((rd_T26 l1 x6_1).f1) ((rd_T26 l1 x6_1).f2) ((rd_T26 l1 x6_1).f3) ((rd_T26 l1 x7_2).f0) ((rd_T26 l1 x7_2).f1) ((rd_T26 l1 x7_2).f2) ((rd_T26 l1 x7_2).f3) t433 _ A12.out).mono ?_
                        rintro e w17 ⟨rfl, hb⟩
                        refine ⟨_, rfl, ?_⟩
                        have n0_ := Aside0.mk (below_step (by repeat (first | (with_reducible first | exact HB.out | apply below_alloc | apply pw_below_drewN | apply below_drew1) | exact HB.out)) hb)
                        clear HB
                        have HB := n0_
                        clear n0_
                        (try clear hb)
                        (try clear hb2)
                        (try clear hk)
                        (try clear hi)
                        refine hK.out _ _ ⟨((HB.out.cell (World.block_lt_of_cell? w _ hw431_0)).trans hw431_0), ((HB.out.cell (World.block_lt_of_cell? w _ hw431_1)).trans hw431_1), ((HB.out.cell (World.block_lt_of_cell? w _ hw431_2)).trans hw431_2), ((HB.out.cell (World.block_lt_of_cell? w _ hw431_3)).trans hw431_3), ((HB.out.cell (World.block_lt_of_cell? w _ hw432_0)).trans hw432_0), ((HB.out.cell (World.block_lt_of_cell? w _ hw432_1)).trans hw432_1), ((HB.out.cell (World.block_lt_of_cell? w _ hw432_2)).trans hw432_2), ((HB.out.cell (World.block_lt_of_cell? w _ hw432_3)).trans hw432_3)⟩ (fun hHeld => ?_)
                        clear hK K
                        refine norm_ (a' := ?_) ?_ ?_
                        rotate_left
                        · show Act.put _ (some 51) _ = _
                          simp only [Act.put, List.setIfInBounds_toArray, List.set_cons_zero, List.set_cons_succ, i64_w, i32_w, IntKind.wrap_u8, IntKind.wrap_u16, IntKind.wrap_u32]
                          rfl
                        refine pure_ (i := 9) (N := some 9) (v := ?_) (a' := ?_) #[true, true, true, true, true, true, true, true, true, true] rfl rfl (any_of HT_.out (by kernel_rfl)) (fun _ _ _ h => h) (Or.inl ⟨by rfl, ?_⟩) ?_ ?_
                        rotate_left
                        · intro w'
                          go_simp
                          with_reducible rfl
                        rotate_left
                        · simp only [Act.put, List.setIfInBounds_toArray, List.set_cons_zero, List.set_cons_succ, i64_w, i32_w, IntKind.wrap_u8, IntKind.wrap_u16, IntKind.wrap_u32]
                          rfl
                        refine done_ (done_of HT_.out (by kernel_rfl)) ?_
                        try go_wp2
                        go_loopg [10] k2 (fun kq v10 w' => ∃ (x10_3 : Int), v10 = .int .i64 x10_3 ∧ Aside0 (refrainlaw1_ValueOps.l2 kq l0 l1 x6_1 x7_2 x10_3 = some r) ∧ Aside0 (kq ≤ k2) ∧ Aside0 (Below w.heap.size w w'))
                        case atStart => exact ⟨(0), (by first | rfl | (simp; done) | (simp [*]; done) | (simp; unfold wrap64; omega)), H', ⟨Nat.le_refl _⟩, ⟨by repeat (first | (with_reducible first | exact HB.out | apply below_alloc | apply pw_below_drewN | apply below_drew1) | exact HB.out)⟩⟩
                        case round =>
                          clear H'
                          try clear c1
                          try clear p2
                          try clear c4
                          try clear p4
                          try clear q4
                          try clear hx4
                          try clear c6
                          try clear c6b0
                          try clear c7
                          try clear c7b0
                          try clear c8
                          try clear c8b0
                          try clear c9
                          try clear c9b0
                          try clear c10
                          try clear c10b0
                          try clear c13
                          try clear c13b0
                          try clear c13b1
                          try clear c17
                          try clear hx428_0
                          try clear hx428_1
                          try clear hx428_2
                          try clear hx428_3
                          try clear hx429_0
                          try clear hx429_1
                          try clear hx429_2
                          try clear hx429_3
                          try clear hx431_0
                          try clear hx431_1
                          try clear hx431_2
                          try clear hx431_3
                          try clear hx432_0
                          try clear hx432_1
                          try clear hx432_2
                          try clear hx432_3
                          try clear p2
                          try clear p428
                          try clear p429
                          try clear p431
                          try clear p432
                          try clear q428
                          try clear q429
                          try clear q431
                          try clear q432
                          obtain ⟨x10_3, rfl, HA, HK3, HB⟩ := hrel
                          cases gk with
                          | zero => (have HA2 := HA.out; clear HA; revert HA2; rw [refrainlaw1_ValueOps.l2_zero]; intro h_; cases h_)
                          | succ k3 =>
                            have H := HA.out
                            clear HA
                            simp only [refrainlaw1_ValueOps.l2] at H
                            by_cases c18 : x10_3 < (l0.length : Int)
                            · rw [if_pos c18] at H
                              have c18b0 : decide (x10_3 < (l0.length : Int)) = true := decide_eq_true c18
                              clear c18
                              by_cases c19 : 0 ≤ x10_3
                              · rw [if_pos c19] at H
                                have c19b0 : decide (0 ≤ x10_3) = true := decide_eq_true c19
                                clear c19
                                by_cases c20 : 0 ≤ x6_1
                                · rw [if_pos c20] at H
                                  have c20b0 : decide (0 ≤ x6_1) = true := decide_eq_true c20
                                  clear c20
                                  by_cases c21 : x6_1 < (l1.length : Int)
                                  · rw [if_pos c21] at H
                                    have c21b0 : decide (x6_1 < (l1.length : Int)) = true := decide_eq_true c21
                                    clear c21
                                    by_cases c22 : 0 ≤ x7_2
                                    · rw [if_pos c22] at H
                                      have c22b0 : decide (0 ≤ x7_2) = true := decide_eq_true c22
                                      clear c22
                                      by_cases c23 : x7_2 < (l1.length : Int)
                                      · rw [if_pos c23] at H
                                        have c23b0 : decide (x7_2 < (l1.length : Int)) = true := decide_eq_true c23
                                        clear c23
                                        replace H := Option.bind_eq_some_iff.mp H
                                        obtain ⟨⟨t437, t438, t439, t440, t441⟩, A240, H⟩ := H
                                        replace H : ((refrainref1_Binary.f (rd l0 x10_3) ((rd_T26 l1 x6_1).f0) ((rd_T26 l1 x6_1).f1) ((rd_T26 l1 x6_1).f2) ((rd_T26 l1 x6_1).f3) ((rd_T26 l1 x7_2).f0) ((rd_T26 l1 x7_2).f1) ((rd_T26 l1 x7_2).f2) ((rd_T26 l1 x7_2).f3)).bind fun bt446 => ((value_Unary.f k3 (rd l0 x10_3) ((rd_T26 l1 x6_1).f0) ((rd_T26 l1 x6_1).f1) ((rd_T26 l1 x6_1).f2) ((rd_T26 l1 x6_1).f3)).bind fun bt454 => ((refrainref1_Unary.f k3 (rd l0 x10_3) ((rd_T26 l1 x6_1).f0) ((rd_T26 l1 x6_1).f1) ((rd_T26 l1 x6_1).f2) ((rd_T26 l1 x6_1).f3)).bind fun bt462 => (if (!(t437 == bt446.1) || (!(t438 == bt446.2.1) || (!(t439.toList == bt446.2.2.1.toList) || (!(t440 == bt446.2.2.2.1))))) = true then (some false) else (if t441 = bt446.2.2.2.2 then (if (!(bt454.1 == bt462.1) || (!(bt454.2.1 == bt462.2.1) || (!(bt454.2.2.1.toList == bt462.2.2.1.toList) || (!(bt454.2.2.2.1 == bt462.2.2.2.1))))) = true then (some false) else (if bt454.2.2.2.2 = bt462.2.2.2.2 then (refrainlaw1_ValueOps.l2 k3 l0 l1 x6_1 x7_2 (wrap64 (x10_3 + 1))) else (some false))) else (some false)))))) = some r := H
                                        have A24 := Aside0.mk A240
                                        clear A240
                                        replace H := Option.bind_eq_some_iff.mp H
                                        obtain ⟨⟨t446, t447, t448, t449, t450⟩, A250, H⟩ := H
                                        replace H : ((value_Unary.f k3 (rd l0 x10_3) ((rd_T26 l1 x6_1).f0) ((rd_T26 l1 x6_1).f1) ((rd_T26 l1 x6_1).f2) ((rd_T26 l1 x6_1).f3)).bind fun bt454 => ((refrainref1_Unary.f k3 (rd l0 x10_3) ((rd_T26 l1 x6_1).f0) ((rd_T26 l1 x6_1).f1) ((rd_T26 l1 x6_1).f2) ((rd_T26 l1 x6_1).f3)).bind fun bt462 => (if (!(t437 == t446) || (!(t438 == t447) || (!(t439.toList == t448.toList) || (!(t440 == t449))))) = true then (some false) else (if t441 = t450 then (if (!(bt454.1 == bt462.1) || (!(bt454.2.1 == bt462.2.1) || (!(bt454.2.2.1.toList == bt462.2.2.1.toList) || (!(bt454.2.2.2.1 == bt462.2.2.2.1))))) = true then (some false) else (if bt454.2.2.2.2 = bt462.2.2.2.2 then (refrainlaw1_ValueOps.l2 k3 l0 l1 x6_1 x7_2 (wrap64 (x10_3 + 1))) else (some false))) else (some false))))) = some r := H
                                        have A25 := Aside0.mk A250
                                        clear A250
                                        replace H := Option.bind_eq_some_iff.mp H
                                        obtain ⟨⟨t454, t455, t456, t457, t458⟩, A260, H⟩ := H
                                        replace H : ((refrainref1_Unary.f k3 (rd l0 x10_3) ((rd_T26 l1 x6_1).f0) ((rd_T26 l1 x6_1).f1) ((rd_T26 l1 x6_1).f2) ((rd_T26 l1 x6_1).f3)).bind fun bt462 => (if (!(t437 == t446) || (!(t438 == t447) || (!(t439.toList == t448.toList) || (!(t440 == t449))))) = true then (some false) else (if t441 = t450 then (if (!(t454 == bt462.1) || (!(t455 == bt462.2.1) || (!(t456.toList == bt462.2.2.1.toList) || (!(t457 == bt462.2.2.2.1))))) = true then (some false) else (if t458 = bt462.2.2.2.2 then (refrainlaw1_ValueOps.l2 k3 l0 l1 x6_1 x7_2 (wrap64 (x10_3 + 1))) else (some false))) else (some false)))) = some r := H
                                        have A26 := Aside0.mk A260
                                        clear A260
                                        replace H := Option.bind_eq_some_iff.mp H
                                        obtain ⟨⟨t462, t463, t464, t465, t466⟩, A270, H⟩ := H
                                        replace H : (if (!(t437 == t446) || (!(t438 == t447) || (!(t439.toList == t448.toList) || (!(t440 == t449))))) = true then (some false) else (if t441 = t450 then (if (!(t454 == t462) || (!(t455 == t463) || (!(t456.toList == t464.toList) || (!(t457 == t465))))) = true then (some false) else (if t458 = t466 then (refrainlaw1_ValueOps.l2 k3 l0 l1 x6_1 x7_2 (wrap64 (x10_3 + 1))) else (some false))) else (some false))) = some r := H
                                        have A27 := Aside0.mk A270
                                        clear A270
                                        by_cases c28 : (!(t437 == t446) || (!(t438 == t447) || (!(t439.toList == t448.toList) || (!(t440 == t449))))) = true
                                        · rw [if_pos c28] at H
                                          have c28b0 : (!(t437 == t446) || (!(t438 == t447) || (!(t439.toList == t448.toList) || (!(t440 == t449))))) = true := c28
                                          clear c28
                                          exact absurd ((Option.some.inj H).trans hr.out) Bool.false_ne_true
                                        · rw [if_neg c28] at H
                                          have c28b0 : (!(t437 == t446) || (!(t438 == t447) || (!(t439.toList == t448.toList) || (!(t440 == t449))))) = false := by simpa using c28
                                          clear c28
                                          by_cases c71 : t441 = t450
                                          · rw [if_pos c71] at H
                                            have c71b0 : (t441 == t450) = true := beq_iff_eq.mpr c71
                                            have c71b1 : (t441 != t450) = false := bne_eq_false_iff_eq.mpr c71
                                            clear c71
                                            by_cases c72 : (!(t454 == t462) || (!(t455 == t463) || (!(t456.toList == t464.toList) || (!(t457 == t465))))) = true
                                            · rw [if_pos c72] at H
                                              have c72b0 : (!(t454 == t462) || (!(t455 == t463) || (!(t456.toList == t464.toList) || (!(t457 == t465))))) = true := c72
                                              clear c72
                                              exact absurd ((Option.some.inj H).trans hr.out) Bool.false_ne_true
                                            · rw [if_neg c72] at H
                                              have c72b0 : (!(t454 == t462) || (!(t455 == t463) || (!(t456.toList == t464.toList) || (!(t457 == t465))))) = false := by simpa using c72
                                              clear c72
                                              by_cases c118 : t458 = t466
                                              · rw [if_pos c118] at H
                                                have c118b0 : (t458 == t466) = true := beq_iff_eq.mpr c118
                                                have c118b1 : (t458 != t466) = false := bne_eq_false_iff_eq.mpr c118
                                                clear c118
                                                have H' := Aside0.mk H
                                                clear H
                                                try go_wp2
                                                have n0_ := Aside0.mk (below_drew1 HB.out)
                                                clear HB
                                                have HB := n0_
                                                clear n0_
                                                have p434 : 0 ≤ (x10_3 : Int) := of_decide_eq_true (by first | (with_reducible assumption) | assumption)
                                                have q434 : x10_3 < (l0.length : Int) := of_decide_eq_true (by first | (with_reducible assumption) | assumption)
                                                obtain ⟨ad434, e434, hx434_0⟩ := Kd.at_int HR0.out x10_3 p434 q434
                                                have hw434_0 := hx434_0
                                                cases e434
                                                replace hx434_0 := (HB.out.cell (World.block_lt_of_cell? w _ hx434_0)).trans hx434_0
                                                replace p434 := eq_true p434
                                                replace q434 := eq_true q434
                                                have p435 : 0 ≤ (x6_1 : Int) := of_decide_eq_true (by first | (with_reducible assumption) | assumption)
                                                have q435 : x6_1 < (l1.length : Int) := of_decide_eq_true (by first | (with_reducible assumption) | assumption)
                                                obtain ⟨ad435, e435, hx435_0, hx435_1, hx435_2, hx435_3⟩ := at_T26 HR1.out x6_1 p435 q435
                                                have hw435_3 := hx435_3
                                                have hw435_2 := hx435_2
                                                have hw435_1 := hx435_1
                                                have hw435_0 := hx435_0
                                                obtain rfl : ad428 = ad435 := (by injection e435)
                                                replace hx435_0 := (HB.out.cell (World.block_lt_of_cell? w _ hx435_0)).trans hx435_0
                                                replace hx435_1 := (HB.out.cell (World.block_lt_of_cell? w _ hx435_1)).trans hx435_1
                                                replace hx435_2 := (HB.out.cell (World.block_lt_of_cell? w _ hx435_2)).trans hx435_2
                                                replace hx435_3 := (HB.out.cell (World.block_lt_of_cell? w _ hx435_3)).trans hx435_3
                                                replace p435 := eq_true p435
                                                replace q435 := eq_true q435
                                                have p436 : 0 ≤ (x7_2 : Int) := of_decide_eq_true (by first | (with_reducible assumption) | assumption)
                                                have q436 : x7_2 < (l1.length : Int) := of_decide_eq_true (by first | (with_reducible assumption) | assumption)
                                                obtain ⟨ad436, e436, hx436_0, hx436_1, hx436_2, hx436_3⟩ := at_T26 HR1.out x7_2 p436 q436
                                                have hw436_3 := hx436_3
                                                have hw436_2 := hx436_2
                                                have hw436_1 := hx436_1
                                                have hw436_0 := hx436_0
                                                obtain rfl : ad428 = ad436 := (by injection e436)
                                                replace hx436_0 := (HB.out.cell (World.block_lt_of_cell? w _ hx436_0)).trans hx436_0
                                                replace hx436_1 := (HB.out.cell (World.block_lt_of_cell? w _ hx436_1)).trans hx436_1
                                                replace hx436_2 := (HB.out.cell (World.block_lt_of_cell? w _ hx436_2)).trans hx436_2
                                                replace hx436_3 := (HB.out.cell (World.block_lt_of_cell? w _ hx436_3)).trans hx436_3
                                                replace p436 := eq_true p436
                                                replace q436 := eq_true q436
                                                refine start_ (n := 19) (S := fun w' => w'.cell? (ad434.add (x10_3).toNat) = some (.int .i64 (rd l0 x10_3)) ∧ w'.cell? (ad428.add ((x6_1).toNat * 4)) = some (.int .i64 ((rd_T26 l1 x6_1).f0)) ∧ w'.cell? ⟨(ad428.add ((x6_1).toNat * 4)).block, (ad428.add ((x6_1).toNat * 4)).off + 1, none⟩ = some (.int .i64 ((rd_T26 l1 x6_1).f1)) ∧ w'.cell? ⟨(ad428.add ((x6_1).toNat * 4)).block, (ad428.add ((x6_1).toNat * 4)).off + 2, none⟩ = some (.string ((rd_T26 l1 x6_1).f2)) ∧ w'.cell? ⟨(ad428.add ((x6_1).toNat * 4)).block, (ad428.add ((x6_1).toNat * 4)).off + 3, none⟩ = some (.bool ((rd_T26 l1 x6_1).f3)) ∧ w'.cell? (ad428.add ((x7_2).toNat * 4)) = some (.int .i64 ((rd_T26 l1 x7_2).f0)) ∧ w'.cell? ⟨(ad428.add ((x7_2).toNat * 4)).block, (ad428.add ((x7_2).toNat * 4)).off + 1, none⟩ = some (.int .i64 ((rd_T26 l1 x7_2).f1)) ∧ w'.cell? ⟨(ad428.add ((x7_2).toNat * 4)).block, (ad428.add ((x7_2).toNat * 4)).off + 2, none⟩ = some (.string ((rd_T26 l1 x7_2).f2)) ∧ w'.cell? ⟨(ad428.add ((x7_2).toNat * 4)).block, (ad428.add ((x7_2).toNat * 4)).off + 3, none⟩ = some (.bool ((rd_T26 l1 x7_2).f3))) (ds := []) #[false, false, false, false, false, false, false, false, false, false, false, false, false, false, false, false, false, false, false] (by kernel_rfl) rfl rfl ⟨((HB.out.cell (World.block_lt_of_cell? w _ hw434_0)).trans hw434_0), ((HB.out.cell (World.block_lt_of_cell? w _ hw435_0)).trans hw435_0), ((HB.out.cell (World.block_lt_of_cell? w _ hw435_1)).trans hw435_1), ((HB.out.cell (World.block_lt_of_cell? w _ hw435_2)).trans hw435_2), ((HB.out.cell (World.block_lt_of_cell? w _ hw435_3)).trans hw435_3), ((HB.out.cell (World.block_lt_of_cell? w _ hw436_0)).trans hw436_0), ((HB.out.cell (World.block_lt_of_cell? w _ hw436_1)).trans hw436_1), ((HB.out.cell (World.block_lt_of_cell? w _ hw436_2)).trans hw436_2), ((HB.out.cell (World.block_lt_of_cell? w _ hw436_3)).trans hw436_3)⟩ (fun hHeld => ?_); refine with_tabW refrainlaw1_ValueOps.tab17 refrainlaw1_ValueOps.bits17 (fun HT_ HW_ => ?_)
                                                generalize wr.drew = w119 at HB hx434_0 hx435_0 hx435_1 hx435_2 hx435_3 hx436_0 hx436_1 hx436_2 hx436_3 hHeld ⊢
                                                refine pure_ (i := 0) (N := some 62) (v := ?_) (a' := ?_) #[true, false, false, false, false, false, false, false, false, false, false, false, false, false, false, false, false, false, false] rfl rfl (any_of HT_.out (by kernel_rfl)) (fun _ _ _ h => h) (Or.inl ⟨by rfl, ?_⟩) ?_ ?_
                                                rotate_left
                                                · intro w'
                                                  go_simp
                                                  with_reducible rfl
                                                rotate_left
                                                · simp only [Act.put, List.setIfInBounds_toArray, List.set_cons_zero, List.set_cons_succ, i64_w, i32_w, IntKind.wrap_u8, IntKind.wrap_u16, IntKind.wrap_u32]
                                                  rfl
                                                refine pure_ (i := 1) (N := some 63) (v := ?_) (a' := ?_) #[true, true, false, false, false, false, false, false, false, false, false, false, false, false, false, false, false, false, false] rfl rfl (any_of HT_.out (by kernel_rfl)) (fun _ _ _ h => h) (Or.inl ⟨by rfl, ?_⟩) ?_ ?_
                                                rotate_left
                                                · intro w'
                                                  go_simp
                                                  with_reducible rfl
                                                rotate_left
                                                · simp only [Act.put, List.setIfInBounds_toArray, List.set_cons_zero, List.set_cons_succ, i64_w, i32_w, IntKind.wrap_u8, IntKind.wrap_u16, IntKind.wrap_u32]
                                                  rfl
                                                refine pure_ (i := 2) (N := some 64) (v := ?_) (a' := ?_) #[true, true, true, false, false, false, false, false, false, false, false, false, false, false, false, false, false, false, false] rfl rfl (any_of HT_.out (by kernel_rfl)) (fun _ _ _ h => h) (Or.inl ⟨by rfl, ?_⟩) ?_ ?_
                                                rotate_left
                                                · intro w'
                                                  go_simp
                                                  with_reducible rfl
                                                rotate_left
                                                · simp only [Act.put, List.setIfInBounds_toArray, List.set_cons_zero, List.set_cons_succ, i64_w, i32_w, IntKind.wrap_u8, IntKind.wrap_u16, IntKind.wrap_u32]
                                                  rfl
                                                refine pure_ (i := 4) (N := some 66) (v := ?_) (a' := ?_) #[true, true, true, false, true, false, false, false, false, false, false, false, false, false, false, false, false, false, false] rfl rfl (any_of HT_.out (by kernel_rfl)) (fun _ _ _ h => h) (Or.inl ⟨by rfl, ?_⟩) ?_ ?_
                                                rotate_left
                                                · intro w'
                                                  go_simp
                                                  with_reducible rfl
                                                rotate_left
                                                · simp only [Act.put, List.setIfInBounds_toArray, List.set_cons_zero, List.set_cons_succ, i64_w, i32_w, IntKind.wrap_u8, IntKind.wrap_u16, IntKind.wrap_u32]
                                                  rfl
                                                refine pure_ (i := 5) (N := some 67) (v := ?_) (a' := ?_) #[true, true, true, false, true, true, false, false, false, false, false, false, false, false, false, false, false, false, false] rfl rfl (any_of HT_.out (by kernel_rfl)) (fun _ _ _ h => h) (Or.inl ⟨by rfl, ?_⟩) ?_ ?_
                                                rotate_left
                                                · intro w'
                                                  go_simp
                                                  with_reducible rfl
                                                rotate_left
                                                · simp only [Act.put, List.setIfInBounds_toArray, List.set_cons_zero, List.set_cons_succ, i64_w, i32_w, IntKind.wrap_u8, IntKind.wrap_u16, IntKind.wrap_u32]
                                                  rfl
                                                refine pure_ (i := 6) (N := some 68) (v := ?_) (a' := ?_) #[true, true, true, false, true, true, true, false, false, false, false, false, false, false, false, false, false, false, false] rfl rfl (any_of HT_.out (by kernel_rfl)) (fun _ _ _ h => h) (Or.inl ⟨by rfl, ?_⟩) ?_ ?_
                                                rotate_left
                                                · intro w'
                                                  go_simp
                                                  with_reducible rfl
                                                rotate_left
                                                · simp only [Act.put, List.setIfInBounds_toArray, List.set_cons_zero, List.set_cons_succ, i64_w, i32_w, IntKind.wrap_u8, IntKind.wrap_u16, IntKind.wrap_u32]
                                                  rfl
                                                refine pure_ (i := 8) (N := some 70) (v := ?_) (a' := ?_) #[true, true, true, false, true, true, true, false, true, false, false, false, false, false, false, false, false, false, false] rfl rfl (any_of HT_.out (by kernel_rfl)) (fun _ _ _ h => h) (Or.inl ⟨by rfl, ?_⟩) ?_ ?_
                                                rotate_left
                                                · intro w'
                                                  go_simp
                                                  with_reducible rfl
                                                rotate_left
                                                · simp only [Act.put, List.setIfInBounds_toArray, List.set_cons_zero, List.set_cons_succ, i64_w, i32_w, IntKind.wrap_u8, IntKind.wrap_u16, IntKind.wrap_u32]
                                                  rfl
                                                refine pure_ (i := 9) (N := some 71) (v := ?_) (a' := ?_) #[true, true, true, false, true, true, true, false, true, true, false, false, false, false, false, false, false, false, false] rfl rfl (any_of HT_.out (by kernel_rfl)) (fun _ _ _ h => h) (Or.inl ⟨by rfl, ?_⟩) ?_ ?_
                                                rotate_left
                                                · intro w'
                                                  go_simp
                                                  with_reducible rfl
                                                rotate_left
                                                · simp only [Act.put, List.setIfInBounds_toArray, List.set_cons_zero, List.set_cons_succ, i64_w, i32_w, IntKind.wrap_u8, IntKind.wrap_u16, IntKind.wrap_u32]
                                                  rfl
                                                refine pure_ (i := 10) (N := some 72) (v := ?_) (a' := ?_) #[true, true, true, false, true, true, true, false, true, true, true, false, false, false, false, false, false, false, false] rfl rfl (any_of HT_.out (by kernel_rfl)) (fun _ _ _ h => h) (Or.inl ⟨by rfl, ?_⟩) ?_ ?_
                                                rotate_left
                                                · intro w'
                                                  go_simp
                                                  with_reducible rfl
                                                rotate_left
                                                · simp only [Act.put, List.setIfInBounds_toArray, List.set_cons_zero, List.set_cons_succ, i64_w, i32_w, IntKind.wrap_u8, IntKind.wrap_u16, IntKind.wrap_u32]
                                                  rfl
                                                refine take_ (i := 3) (N := some 65) (v := ?_) (a' := ?_) #[true, true, true, true, true, true, true, false, true, true, true, false, false, false, false, false, false, false, false] rfl rfl (take_ofW HT_.out HW_.out (by kernel_rfl)) (fun _ _ _ h => h) (Or.inl ⟨by rfl, ?_⟩) hHeld ?_ ?_
                                                rotate_left
                                                · rintro w' ⟨s0, s1, s2, s3, s4, s5, s6, s7, s8⟩
                                                  go_simp
                                                  with_reducible rfl
                                                rotate_left
                                                · simp only [Act.put, List.setIfInBounds_toArray, List.set_cons_zero, List.set_cons_succ, i64_w, i32_w, IntKind.wrap_u8, IntKind.wrap_u16, IntKind.wrap_u32]
                                                  rfl
                                                refine take_ (i := 7) (N := some 69) (v := ?_) (a' := ?_) #[true, true, true, true, true, true, true, true, true, true, true, false, false, false, false, false, false, false, false] rfl rfl (take_ofW HT_.out HW_.out (by kernel_rfl)) (fun _ _ _ h => h) (Or.inl ⟨by rfl, ?_⟩) hHeld ?_ ?_
                                                rotate_left
                                                · rintro w' ⟨s0, s1, s2, s3, s4, s5, s6, s7, s8⟩
                                                  go_simp
                                                  with_reducible rfl
                                                rotate_left
                                                · simp only [Act.put, List.setIfInBounds_toArray, List.set_cons_zero, List.set_cons_succ, i64_w, i32_w, IntKind.wrap_u8, IntKind.wrap_u16, IntKind.wrap_u32]
                                                  rfl
                                                refine take_ (i := 11) (N := some 73) (v := ?_) (a' := ?_) #[true, true, true, true, true, true, true, true, true, true, true, true, false, false, false, false, false, false, false] rfl rfl (take_ofW HT_.out HW_.out (by kernel_rfl)) (fun _ _ _ h => h) (Or.inl ⟨by rfl, ?_⟩) hHeld ?_ ?_
                                                rotate_left
                                                · rintro w' ⟨s0, s1, s2, s3, s4, s5, s6, s7, s8⟩
                                                  go_simp
                                                  with_reducible rfl
                                                rotate_left
                                                · simp only [Act.put, List.setIfInBounds_toArray, List.set_cons_zero, List.set_cons_succ, i64_w, i32_w, IntKind.wrap_u8, IntKind.wrap_u16, IntKind.wrap_u32]
                                                  rfl
                                                refine join_ (σ := Nat) 2 #[true, true, true, true, true, true, true, true, true, true, true, true, true, true, true, true, true, false, false] (fun s_ => [(74, .tuple #[.agg #[.int .i64 t437, .int .i64 t438, .string t439, .bool t440], .int .i64 t441]), (11, .pointer (some ⟨s_, 0, none⟩)), (61, .tuple #[.agg #[.int .i64 t437, .int .i64 t438, .string t439, .bool t440], .int .i64 t441]), (75, .agg #[.int .i64 t437, .int .i64 t438, .string t439, .bool t440]), (76, .int .i64 t441)]) (fun s_ w' => (w'.cell? (ad434.add (x10_3).toNat) = some (.int .i64 (rd l0 x10_3)) ∧ w'.cell? (ad428.add ((x6_1).toNat * 4)) = some (.int .i64 ((rd_T26 l1 x6_1).f0)) ∧ w'.cell? ⟨(ad428.add ((x6_1).toNat * 4)).block, (ad428.add ((x6_1).toNat * 4)).off + 1, none⟩ = some (.int .i64 ((rd_T26 l1 x6_1).f1)) ∧ w'.cell? ⟨(ad428.add ((x6_1).toNat * 4)).block, (ad428.add ((x6_1).toNat * 4)).off + 2, none⟩ = some (.string ((rd_T26 l1 x6_1).f2)) ∧ w'.cell? ⟨(ad428.add ((x6_1).toNat * 4)).block, (ad428.add ((x6_1).toNat * 4)).off + 3, none⟩ = some (.bool ((rd_T26 l1 x6_1).f3)) ∧ w'.cell? (ad428.add ((x7_2).toNat * 4)) = some (.int .i64 ((rd_T26 l1 x7_2).f0)) ∧ w'.cell? ⟨(ad428.add ((x7_2).toNat * 4)).block, (ad428.add ((x7_2).toNat * 4)).off + 1, none⟩ = some (.int .i64 ((rd_T26 l1 x7_2).f1)) ∧ w'.cell? ⟨(ad428.add ((x7_2).toNat * 4)).block, (ad428.add ((x7_2).toNat * 4)).off + 2, none⟩ = some (.string ((rd_T26 l1 x7_2).f2)) ∧ w'.cell? ⟨(ad428.add ((x7_2).toNat * 4)).block, (ad428.add ((x7_2).toNat * 4)).off + 3, none⟩ = some (.bool ((rd_T26 l1 x7_2).f3))) ∧ (w'.heap[s_]? = some (.cells #[.int .i64 0, .int .i64 0, .string (⟨#[]⟩ : ByteArray), .bool false] 26 (0, 0))) ∧ (w.heap.size ≤ s_) ∧ (w.heap.size ≤ s_) ∧ (Below w.heap.size w w')) ?_ ?_
                                                rotate_left
                                                · intro hCont
                                                  refine two_ (i := 12) (j := 16) (Ni := some 74) (Nj := some 11) #[true, true, true, true, true, true, true, true, true, true, true, true, true, false, false, false, false, false, false] #[true, true, true, true, true, true, true, true, true, true, true, true, false, false, false, false, true, false, false] rfl rfl rfl rfl (two_of HT_.out (by kernel_rfl)) (by decide) (by decide) (fun K hK => ?_) (fun K hK => ?_)
                                                  · skip
                                                    refine goes_ Tryd.func20 (by kernel_rfl) rfl #[.int .i64 (rd l0 x10_3), .agg #[.int .i64 ((rd_T26 l1 x6_1).f0), .int .i64 ((rd_T26 l1 x6_1).f1), .string ((rd_T26 l1 x6_1).f2), .bool ((rd_T26 l1 x6_1).f3)], .agg #[.int .i64 ((rd_T26 l1 x7_2).f0), .int .i64 ((rd_T26 l1 x7_2).f1), .string ((rd_T26 l1 x7_2).f2), .bool ((rd_T26 l1 x7_2).f3)]] (by rfl) rfl rfl (by (try simp only [List.map_toArray, List.map_cons, List.map_nil]); first | done | rfl | (simp only [List.length_drop, List.length_take]; rfl)) ?_
                                                    with_reducible refine (value_Binary.calls k3 (rd l0 x10_3) ((rd_T26 l1 x6_1).f0) ((rd_T26 l1 x6_1).f1) ((rd_T26 l1 x6_1).f2) ((rd_T26 l1 x6_1).f3) ((rd_T26 l1 x7_2).f0) ((rd_T26 l1 x7_2).f1) ((rd_T26 l1 x7_2).f2) ((rd_T26 l1 x7_2).f3) t437 t438 t439 t440 t441 _ ?side1 A24.out).mono ?_
                                                    (case side1 => first | (with_reducible exact HL_LG0) | exact ⟨LG0.below HL_LG0.out (by repeat (first | (with_reducible first | exact HB.out | apply below_alloc | apply pw_below_drewN | apply below_drew1) | exact HB.out))⟩)
                                                    rintro e w120 ⟨rfl, hb⟩
                                                    refine ⟨_, rfl, ?_⟩
                                                    have n0_ := Aside0.mk (below_step (by repeat (first | (with_reducible first | exact HB.out | apply below_alloc | apply pw_below_drewN | apply below_drew1) | exact HB.out)) hb)
                                                    clear HB
                                                    have HB := n0_
                                                    clear n0_
                                                    (try clear hb)
                                                    (try clear hb2)
                                                    (try clear hk)
                                                    (try clear hi)
                                                    refine hK.out _ _ ⟨((HB.out.cell (World.block_lt_of_cell? w _ hw434_0)).trans hw434_0), ((HB.out.cell (World.block_lt_of_cell? w _ hw435_0)).trans hw435_0), ((HB.out.cell (World.block_lt_of_cell? w _ hw435_1)).trans hw435_1), ((HB.out.cell (World.block_lt_of_cell? w _ hw435_2)).trans hw435_2), ((HB.out.cell (World.block_lt_of_cell? w _ hw435_3)).trans hw435_3), ((HB.out.cell (World.block_lt_of_cell? w _ hw436_0)).trans hw436_0), ((HB.out.cell (World.block_lt_of_cell? w _ hw436_1)).trans hw436_1), ((HB.out.cell (World.block_lt_of_cell? w _ hw436_2)).trans hw436_2), ((HB.out.cell (World.block_lt_of_cell? w _ hw436_3)).trans hw436_3)⟩ (fun hHeld => ?_)
                                                    clear hK K
                                                    refine norm_ (a' := ?_) ?_ ?_
                                                    rotate_left
                                                    · show Act.put _ (some 74) _ = _
                                                      simp only [Act.put, List.setIfInBounds_toArray, List.set_cons_zero, List.set_cons_succ, i64_w, i32_w, IntKind.wrap_u8, IntKind.wrap_u16, IntKind.wrap_u32]
                                                      rfl
                                                    refine pure_ (i := 13) (N := some 61) (v := ?_) (a' := ?_) #[true, true, true, true, true, true, true, true, true, true, true, true, true, true, false, false, false, false, false] rfl rfl (any_of HT_.out (by kernel_rfl)) (fun _ _ _ h => h) (Or.inl ⟨by rfl, ?_⟩) ?_ ?_
                                                    rotate_left
                                                    · intro w'
                                                      go_simp
                                                      with_reducible rfl
                                                    rotate_left
                                                    · simp only [Act.put, List.setIfInBounds_toArray, List.set_cons_zero, List.set_cons_succ, i64_w, i32_w, IntKind.wrap_u8, IntKind.wrap_u16, IntKind.wrap_u32]
                                                      rfl
                                                    refine pure_ (i := 14) (N := some 75) (v := ?_) (a' := ?_) #[true, true, true, true, true, true, true, true, true, true, true, true, true, true, true, false, false, false, false] rfl rfl (any_of HT_.out (by kernel_rfl)) (fun _ _ _ h => h) (Or.inl ⟨by rfl, ?_⟩) ?_ ?_
                                                    rotate_left
                                                    · intro w'
                                                      go_simp
                                                      with_reducible rfl
                                                    rotate_left
                                                    · simp only [Act.put, List.setIfInBounds_toArray, List.set_cons_zero, List.set_cons_succ, i64_w, i32_w, IntKind.wrap_u8, IntKind.wrap_u16, IntKind.wrap_u32]
                                                      rfl
                                                    refine pure_ (i := 15) (N := some 76) (v := ?_) (a' := ?_) #[true, true, true, true, true, true, true, true, true, true, true, true, true, true, true, true, false, false, false] rfl rfl (any_of HT_.out (by kernel_rfl)) (fun _ _ _ h => h) (Or.inl ⟨by rfl, ?_⟩) ?_ ?_
                                                    rotate_left
                                                    · intro w'
                                                      go_simp
                                                      with_reducible rfl
                                                    rotate_left
                                                    · simp only [Act.put, List.setIfInBounds_toArray, List.set_cons_zero, List.set_cons_succ, i64_w, i32_w, IntKind.wrap_u8, IntKind.wrap_u16, IntKind.wrap_u32]
                                                      rfl
                                                    refine one_ (i := 16) (N := some 11) #[true, true, true, true, true, true, true, true, true, true, true, true, true, true, true, true, true, false, false] rfl rfl (one_of HT_.out (by kernel_rfl)) (by decide) (fun K hK => ?_)
                                                    refine box_step ?hg (N := 11) ?hd (cs := #[.int .i64 0, .int .i64 0, .string (⟨#[]⟩ : ByteArray), .bool false]) (t := 26) ?hr ?_; (case hd => rfl); (case hg => rfl); (case hr => first | (go_simp; done) | (go_simp; rfl))
                                                    intro gb442 hg w121 hbox hb
                                                    have n0_ := Aside0.mk (below_step (by repeat (first | (with_reducible first | exact HB.out | apply below_alloc | apply pw_below_drewN | apply below_drew1) | exact HB.out)) hb)
                                                    have n1_ := Aside0.mk (hbox)
                                                    have n2_ := Aside0.mk ((by rw [hg]; exact (below_size (by repeat (first | (with_reducible first | exact HB.out | apply below_alloc | apply pw_below_drewN | apply below_drew1) | exact HB.out))) : w.heap.size ≤ gb442))
                                                    have n3_ := Aside0.mk ((by rw [hg]; exact (below_size (by repeat (first | (with_reducible first | exact HB.out | apply below_alloc | apply pw_below_drewN | apply below_drew1) | exact HB.out))) : w.heap.size ≤ gb442))
                                                    clear HB
                                                    have HB := n0_
                                                    have BK442 := n1_
                                                    have GW442 := n2_
                                                    have GE442 := n3_
                                                    clear n0_ n1_ n2_ n3_
                                                    clear hb hbox hg
                                                    refine hK.out _ _ ⟨((HB.out.cell (World.block_lt_of_cell? w _ hw434_0)).trans hw434_0), ((HB.out.cell (World.block_lt_of_cell? w _ hw435_0)).trans hw435_0), ((HB.out.cell (World.block_lt_of_cell? w _ hw435_1)).trans hw435_1), ((HB.out.cell (World.block_lt_of_cell? w _ hw435_2)).trans hw435_2), ((HB.out.cell (World.block_lt_of_cell? w _ hw435_3)).trans hw435_3), ((HB.out.cell (World.block_lt_of_cell? w _ hw436_0)).trans hw436_0), ((HB.out.cell (World.block_lt_of_cell? w _ hw436_1)).trans hw436_1), ((HB.out.cell (World.block_lt_of_cell? w _ hw436_2)).trans hw436_2), ((HB.out.cell (World.block_lt_of_cell? w _ hw436_3)).trans hw436_3)⟩ (fun hHeld => ?_)
                                                    clear hK K
                                                    refine norm_ (a' := ?_) ?_ ?_
                                                    rotate_left
                                                    · show Act.put _ (some 11) _ = _
                                                      simp only [Act.put, List.setIfInBounds_toArray, List.set_cons_zero, List.set_cons_succ, i64_w, i32_w, IntKind.wrap_u8, IntKind.wrap_u16, IntKind.wrap_u32]
                                                      rfl
                                                    exact norm_ (by simp only [putAll, Act.put, List.setIfInBounds_toArray, List.set_cons_zero, List.set_cons_succ]) (hCont (gb442) _ ⟨hHeld, (by (with_reducible repeat (first | refine blk_drewN ?_ _ | refine blk_drew ?_ | refine blk_alloc ?_ _)); exact BK442.out), GW442.out, GE442.out, (by repeat (first | (with_reducible first | exact HB.out | apply below_alloc | apply pw_below_drewN | apply below_drew1 | refine below_set ?_ GE442.out) | exact HB.out))⟩)
                                                  · skip
                                                    refine box_step ?hg (N := 11) ?hd (cs := #[.int .i64 0, .int .i64 0, .string (⟨#[]⟩ : ByteArray), .bool false]) (t := 26) ?hr ?_; (case hd => rfl); (case hg => rfl); (case hr => first | (go_simp; done) | (go_simp; rfl))
                                                    intro gb442 hg w120 hbox hb
                                                    have n0_ := Aside0.mk (below_step (by repeat (first | (with_reducible first | exact HB.out | apply below_alloc | apply pw_below_drewN | apply below_drew1) | exact HB.out)) hb)
                                                    have n1_ := Aside0.mk (hbox)
                                                    have n2_ := Aside0.mk ((by rw [hg]; exact (below_size (by repeat (first | (with_reducible first | exact HB.out | apply below_alloc | apply pw_below_drewN | apply below_drew1) | exact HB.out))) : w.heap.size ≤ gb442))
                                                    have n3_ := Aside0.mk ((by rw [hg]; exact (below_size (by repeat (first | (with_reducible first | exact HB.out | apply below_alloc | apply pw_below_drewN | apply below_drew1) | exact HB.out))) : w.heap.size ≤ gb442))
                                                    clear HB
                                                    have HB := n0_
                                                    have BK442 := n1_
                                                    have GW442 := n2_
                                                    have GE442 := n3_
                                                    clear n0_ n1_ n2_ n3_
                                                    clear hb hbox hg
                                                    refine hK.out _ _ ⟨((HB.out.cell (World.block_lt_of_cell? w _ hw434_0)).trans hw434_0), ((HB.out.cell (World.block_lt_of_cell? w _ hw435_0)).trans hw435_0), ((HB.out.cell (World.block_lt_of_cell? w _ hw435_1)).trans hw435_1), ((HB.out.cell (World.block_lt_of_cell? w _ hw435_2)).trans hw435_2), ((HB.out.cell (World.block_lt_of_cell? w _ hw435_3)).trans hw435_3), ((HB.out.cell (World.block_lt_of_cell? w _ hw436_0)).trans hw436_0), ((HB.out.cell (World.block_lt_of_cell? w _ hw436_1)).trans hw436_1), ((HB.out.cell (World.block_lt_of_cell? w _ hw436_2)).trans hw436_2), ((HB.out.cell (World.block_lt_of_cell? w _ hw436_3)).trans hw436_3)⟩ (fun hHeld => ?_)
                                                    clear hK K
                                                    refine norm_ (a' := ?_) ?_ ?_
                                                    rotate_left
                                                    · show Act.put _ (some 11) _ = _
                                                      simp only [Act.put, List.setIfInBounds_toArray, List.set_cons_zero, List.set_cons_succ, i64_w, i32_w, IntKind.wrap_u8, IntKind.wrap_u16, IntKind.wrap_u32]
                                                      rfl
                                                    refine one_ (i := 12) (N := some 74) #[true, true, true, true, true, true, true, true, true, true, true, true, true, false, false, false, true, false, false] rfl rfl (one_of HT_.out (by kernel_rfl)) (by decide) (fun K hK => ?_)
                                                    refine goes_ Tryd.func20 (by kernel_rfl) rfl #[.int .i64 (rd l0 x10_3), .agg #[.int .i64 ((rd_T26 l1 x6_1).f0), .int .i64 ((rd_T26 l1 x6_1).f1), .string ((rd_T26 l1 x6_1).f2), .bool ((rd_T26 l1 x6_1).f3)], .agg #[.int .i64 ((rd_T26 l1 x7_2).f0), .int .i64 ((rd_T26 l1 x7_2).f1), .string ((rd_T26 l1 x7_2).f2), .bool ((rd_T26 l1 x7_2).f3)]] (by rfl) rfl rfl (by (try simp only [List.map_toArray, List.map_cons, List.map_nil]); first | done | rfl | (simp only [List.length_drop, List.length_take]; rfl)) ?_
                                                    with_reducible refine (value_Binary.calls k3 (rd l0 x10_3) ((rd_T26 l1 x6_1).f0) ((rd_T26 l1 x6_1).f1) ((rd_T26 l1 x6_1).f2) ((rd_T26 l1 x6_1).f3) ((rd_T26 l1 x7_2).f0) ((rd_T26 l1 x7_2).f1) ((rd_T26 l1 x7_2).f2) ((rd_T26 l1 x7_2).f3) t437 t438 t439 t440 t441 _ ?side1 A24.out).mono ?_
                                                    (case side1 => first | (with_reducible exact HL_LG0) | exact ⟨LG0.below HL_LG0.out (by repeat (first | (with_reducible first | exact HB.out | apply below_alloc | apply pw_below_drewN | apply below_drew1 | refine below_set ?_ GE442.out) | exact HB.out))⟩)
                                                    rintro e w121 ⟨rfl, hb⟩
                                                    refine ⟨_, rfl, ?_⟩
                                                    have n0_ := Aside0.mk (blk_below (g := gb442) (o := .cells #[.int .i64 0, .int .i64 0, .string (⟨#[]⟩ : ByteArray), .bool false] 26 (0, 0)) (by (with_reducible repeat (first | refine blk_drewN ?_ _ | refine blk_drew ?_ | refine blk_alloc ?_ _)); exact BK442.out) hb)
                                                    have n1_ := Aside0.mk (below_step (by repeat (first | (with_reducible first | exact HB.out | apply below_alloc | apply pw_below_drewN | apply below_drew1 | refine below_set ?_ GE442.out) | exact HB.out)) hb)
                                                    clear BK442
                                                    clear HB
                                                    have BK442 := n0_
                                                    have HB := n1_
                                                    clear n0_ n1_
                                                    (try clear hb)
                                                    (try clear hb2)
                                                    (try clear hk)
                                                    (try clear hi)
                                                    refine hK.out _ _ ⟨((HB.out.cell (World.block_lt_of_cell? w _ hw434_0)).trans hw434_0), ((HB.out.cell (World.block_lt_of_cell? w _ hw435_0)).trans hw435_0), ((HB.out.cell (World.block_lt_of_cell? w _ hw435_1)).trans hw435_1), ((HB.out.cell (World.block_lt_of_cell? w _ hw435_2)).trans hw435_2), ((HB.out.cell (World.block_lt_of_cell? w _ hw435_3)).trans hw435_3), ((HB.out.cell (World.block_lt_of_cell? w _ hw436_0)).trans hw436_0), ((HB.out.cell (World.block_lt_of_cell? w _ hw436_1)).trans hw436_1), ((HB.out.cell (World.block_lt_of_cell? w _ hw436_2)).trans hw436_2), ((HB.out.cell (World.block_lt_of_cell? w _ hw436_3)).trans hw436_3)⟩ (fun hHeld => ?_)
                                                    clear hK K
                                                    refine norm_ (a' := ?_) ?_ ?_
                                                    rotate_left
                                                    · show Act.put _ (some 74) _ = _
                                                      simp only [Act.put, List.setIfInBounds_toArray, List.set_cons_zero, List.set_cons_succ, i64_w, i32_w, IntKind.wrap_u8, IntKind.wrap_u16, IntKind.wrap_u32]
                                                      rfl
                                                    refine pure_ (i := 13) (N := some 61) (v := ?_) (a' := ?_) #[true, true, true, true, true, true, true, true, true, true, true, true, true, true, false, false, true, false, false] rfl rfl (any_of HT_.out (by kernel_rfl)) (fun _ _ _ h => h) (Or.inl ⟨by rfl, ?_⟩) ?_ ?_
                                                    rotate_left
                                                    · intro w'
                                                      go_simp
                                                      with_reducible rfl
                                                    rotate_left
                                                    · simp only [Act.put, List.setIfInBounds_toArray, List.set_cons_zero, List.set_cons_succ, i64_w, i32_w, IntKind.wrap_u8, IntKind.wrap_u16, IntKind.wrap_u32]
                                                      rfl
                                                    refine pure_ (i := 14) (N := some 75) (v := ?_) (a' := ?_) #[true, true, true, true, true, true, true, true, true, true, true, true, true, true, true, false, true, false, false] rfl rfl (any_of HT_.out (by kernel_rfl)) (fun _ _ _ h => h) (Or.inl ⟨by rfl, ?_⟩) ?_ ?_
                                                    rotate_left
                                                    · intro w'
                                                      go_simp
                                                      with_reducible rfl
                                                    rotate_left
                                                    · simp only [Act.put, List.setIfInBounds_toArray, List.set_cons_zero, List.set_cons_succ, i64_w, i32_w, IntKind.wrap_u8, IntKind.wrap_u16, IntKind.wrap_u32]
                                                      rfl
                                                    refine pure_ (i := 15) (N := some 76) (v := ?_) (a' := ?_) #[true, true, true, true, true, true, true, true, true, true, true, true, true, true, true, true, true, false, false] rfl rfl (any_of HT_.out (by kernel_rfl)) (fun _ _ _ h => h) (Or.inl ⟨by rfl, ?_⟩) ?_ ?_
                                                    rotate_left
                                                    · intro w'
                                                      go_simp
                                                      with_reducible rfl
                                                    rotate_left
                                                    · simp only [Act.put, List.setIfInBounds_toArray, List.set_cons_zero, List.set_cons_succ, i64_w, i32_w, IntKind.wrap_u8, IntKind.wrap_u16, IntKind.wrap_u32]
                                                      rfl
                                                    exact norm_ (by simp only [putAll, Act.put, List.setIfInBounds_toArray, List.set_cons_zero, List.set_cons_succ]) (hCont (gb442) _ ⟨hHeld, (by (with_reducible repeat (first | refine blk_drewN ?_ _ | refine blk_drew ?_ | refine blk_alloc ?_ _)); exact BK442.out), GW442.out, GE442.out, (by repeat (first | (with_reducible first | exact HB.out | apply below_alloc | apply pw_below_drewN | apply below_drew1 | refine below_set ?_ GE442.out) | exact HB.out))⟩)
                                                rintro gb442 w122 ⟨hS_, h0_, h1_, h2_, h3_⟩
                                                have n0_ : Aside0 (w122.heap[gb442]? = some (.cells #[.int .i64 0, .int .i64 0, .string (⟨#[]⟩ : ByteArray), .bool false] 26 (0, 0))) := ⟨h0_⟩
                                                have n1_ : Aside0 (w.heap.size ≤ gb442) := ⟨h1_⟩
                                                have n2_ : Aside0 (w.heap.size ≤ gb442) := ⟨h2_⟩
                                                have n3_ : Aside0 (Below w.heap.size w w122) := ⟨h3_⟩
                                                clear HB
                                                clear h0_ h1_ h2_ h3_
                                                have BK442 := n0_
                                                have GW442 := n1_
                                                have GE442 := n2_
                                                have HB := n3_
                                                clear n0_ n1_ n2_ n3_
                                                have hHeld : w122.cell? (ad434.add (x10_3).toNat) = some (.int .i64 (rd l0 x10_3)) ∧ w122.cell? (ad428.add ((x6_1).toNat * 4)) = some (.int .i64 ((rd_T26 l1 x6_1).f0)) ∧ w122.cell? ⟨(ad428.add ((x6_1).toNat * 4)).block, (ad428.add ((x6_1).toNat * 4)).off + 1, none⟩ = some (.int .i64 ((rd_T26 l1 x6_1).f1)) ∧ w122.cell? ⟨(ad428.add ((x6_1).toNat * 4)).block, (ad428.add ((x6_1).toNat * 4)).off + 2, none⟩ = some (.string ((rd_T26 l1 x6_1).f2)) ∧ w122.cell? ⟨(ad428.add ((x6_1).toNat * 4)).block, (ad428.add ((x6_1).toNat * 4)).off + 3, none⟩ = some (.bool ((rd_T26 l1 x6_1).f3)) ∧ w122.cell? (ad428.add ((x7_2).toNat * 4)) = some (.int .i64 ((rd_T26 l1 x7_2).f0)) ∧ w122.cell? ⟨(ad428.add ((x7_2).toNat * 4)).block, (ad428.add ((x7_2).toNat * 4)).off + 1, none⟩ = some (.int .i64 ((rd_T26 l1 x7_2).f1)) ∧ w122.cell? ⟨(ad428.add ((x7_2).toNat * 4)).block, (ad428.add ((x7_2).toNat * 4)).off + 2, none⟩ = some (.string ((rd_T26 l1 x7_2).f2)) ∧ w122.cell? ⟨(ad428.add ((x7_2).toNat * 4)).block, (ad428.add ((x7_2).toNat * 4)).off + 3, none⟩ = some (.bool ((rd_T26 l1 x7_2).f3)) := hS_
                                                refine norm_ (a' := ?_) ?_ ?_
                                                rotate_left
                                                · simp only [putAll, Act.put, List.setIfInBounds_toArray, List.set_cons_zero, List.set_cons_succ]
                                                  rfl
                                                refine one_ (i := 17) (N := none) #[true, true, true, true, true, true, true, true, true, true, true, true, true, true, true, true, true, true, false] rfl rfl (one_of HT_.out (by kernel_rfl)) (by decide) (fun K hK => ?_)
                                                have hs123 : w122.cell? ⟨gb442, 0, none⟩ = some (.int .i64 0) := (blk_cell BK442.out 0).trans rfl
                                                have hfs123 := blk_frozen BK442.out 0
                                                have hs124 : w122.cell? ⟨gb442, 1, none⟩ = some (.int .i64 0) := (blk_cell BK442.out 1).trans rfl
                                                have hfs124 := blk_frozen BK442.out 1
                                                have hs125 : w122.cell? ⟨gb442, 2, none⟩ = some (.string (⟨#[]⟩ : ByteArray)) := (blk_cell BK442.out 2).trans rfl
                                                have hfs125 := blk_frozen BK442.out 2
                                                have hs126 : w122.cell? ⟨gb442, 3, none⟩ = some (.bool false) := (blk_cell BK442.out 3).trans rfl
                                                have hfs126 := blk_frozen BK442.out 3
                                                refine skip_ (w1 := ?_) (by rfl) rfl ?_ ?_
                                                rotate_left
                                                · go_simp
                                                  rfl
                                                refine hK.out _ _ ⟨((cell_far (p := ⟨gb442, _, none⟩) (by first | exact far1 hw434_0 GW442.out | exact far2 hw434_0 GW442.out | exact far3 hw434_0 GW442.out | exact far4 hw434_0 GW442.out) _).trans (((cell_far (p := ⟨gb442, _, none⟩) (by first | exact far1 hw434_0 GW442.out | exact far2 hw434_0 GW442.out | exact far3 hw434_0 GW442.out | exact far4 hw434_0 GW442.out) _).trans (((cell_far (p := ⟨gb442, _, none⟩) (by first | exact far1 hw434_0 GW442.out | exact far2 hw434_0 GW442.out | exact far3 hw434_0 GW442.out | exact far4 hw434_0 GW442.out) _).trans (((cell_far (p := ⟨gb442, _, none⟩) (by first | exact far1 hw434_0 GW442.out | exact far2 hw434_0 GW442.out | exact far3 hw434_0 GW442.out | exact far4 hw434_0 GW442.out) _).trans (hHeld.1)))))))), ((cell_far (p := ⟨gb442, _, none⟩) (by first | exact far1 hw435_0 GW442.out | exact far2 hw435_0 GW442.out | exact far3 hw435_0 GW442.out | exact far4 hw435_0 GW442.out) _).trans (((cell_far (p := ⟨gb442, _, none⟩) (by first | exact far1 hw435_0 GW442.out | exact far2 hw435_0 GW442.out | exact far3 hw435_0 GW442.out | exact far4 hw435_0 GW442.out) _).trans (((cell_far (p := ⟨gb442, _, none⟩) (by first | exact far1 hw435_0 GW442.out | exact far2 hw435_0 GW442.out | exact far3 hw435_0 GW442.out | exact far4 hw435_0 GW442.out) _).trans (((cell_far (p := ⟨gb442, _, none⟩) (by first | exact far1 hw435_0 GW442.out | exact far2 hw435_0 GW442.out | exact far3 hw435_0 GW442.out | exact far4 hw435_0 GW442.out) _).trans (hHeld.2.1)))))))), ((cell_far (p := ⟨gb442, _, none⟩) (by first | exact far1 hw435_1 GW442.out | exact far2 hw435_1 GW442.out | exact far3 hw435_1 GW442.out | exact far4 hw435_1 GW442.out) _).trans (((cell_far (p := ⟨gb442, _, none⟩) (by first | exact far1 hw435_1 GW442.out | exact far2 hw435_1 GW442.out | exact far3 hw435_1 GW442.out | exact far4 hw435_1 GW442.out) _).trans (((cell_far (p := ⟨gb442, _, none⟩) (by first | exact far1 hw435_1 GW442.out | exact far2 hw435_1 GW442.out | exact far3 hw435_1 GW442.out | exact far4 hw435_1 GW442.out) _).trans (((cell_far (p := ⟨gb442, _, none⟩) (by first | exact far1 hw435_1 GW442.out | exact far2 hw435_1 GW442.out | exact far3 hw435_1 GW442.out | exact far4 hw435_1 GW442.out) _).trans (hHeld.2.2.1)))))))), ((cell_far (p := ⟨gb442, _, none⟩) (by first | exact far1 hw435_2 GW442.out | exact far2 hw435_2 GW442.out | exact far3 hw435_2 GW442.out | exact far4 hw435_2 GW442.out) _).trans (((cell_far (p := ⟨gb442, _, none⟩) (by first | exact far1 hw435_2 GW442.out | exact far2 hw435_2 GW442.out | exact far3 hw435_2 GW442.out | exact far4 hw435_2 GW442.out) _).trans (((cell_far (p := ⟨gb442, _, none⟩) (by first | exact far1 hw435_2 GW442.out | exact far2 hw435_2 GW442.out | exact far3 hw435_2 GW442.out | exact far4 hw435_2 GW442.out) _).trans (((cell_far (p := ⟨gb442, _, none⟩) (by first | exact far1 hw435_2 GW442.out | exact far2 hw435_2 GW442.out | exact far3 hw435_2 GW442.out | exact far4 hw435_2 GW442.out) _).trans (hHeld.2.2.2.1)))))))), ((cell_far (p := ⟨gb442, _, none⟩) (by first | exact far1 hw435_3 GW442.out | exact far2 hw435_3 GW442.out | exact far3 hw435_3 GW442.out | exact far4 hw435_3 GW442.out) _).trans (((cell_far (p := ⟨gb442, _, none⟩) (by first | exact far1 hw435_3 GW442.out | exact far2 hw435_3 GW442.out | exact far3 hw435_3 GW442.out | exact far4 hw435_3 GW442.out) _).trans (((cell_far (p := ⟨gb442, _, none⟩) (by first | exact far1 hw435_3 GW442.out | exact far2 hw435_3 GW442.out | exact far3 hw435_3 GW442.out | exact far4 hw435_3 GW442.out) _).trans (((cell_far (p := ⟨gb442, _, none⟩) (by first | exact far1 hw435_3 GW442.out | exact far2 hw435_3 GW442.out | exact far3 hw435_3 GW442.out | exact far4 hw435_3 GW442.out) _).trans (hHeld.2.2.2.2.1)))))))), ((cell_far (p := ⟨gb442, _, none⟩) (by first | exact far1 hw436_0 GW442.out | exact far2 hw436_0 GW442.out | exact far3 hw436_0 GW442.out | exact far4 hw436_0 GW442.out) _).trans (((cell_far (p := ⟨gb442, _, none⟩) (by first | exact far1 hw436_0 GW442.out | exact far2 hw436_0 GW442.out | exact far3 hw436_0 GW442.out | exact far4 hw436_0 GW442.out) _).trans (((cell_far (p := ⟨gb442, _, none⟩) (by first | exact far1 hw436_0 GW442.out | exact far2 hw436_0 GW442.out | exact far3 hw436_0 GW442.out | exact far4 hw436_0 GW442.out) _).trans (((cell_far (p := ⟨gb442, _, none⟩) (by first | exact far1 hw436_0 GW442.out | exact far2 hw436_0 GW442.out | exact far3 hw436_0 GW442.out | exact far4 hw436_0 GW442.out) _).trans (hHeld.2.2.2.2.2.1)))))))), ((cell_far (p := ⟨gb442, _, none⟩) (by first | exact far1 hw436_1 GW442.out | exact far2 hw436_1 GW442.out | exact far3 hw436_1 GW442.out | exact far4 hw436_1 GW442.out) _).trans (((cell_far (p := ⟨gb442, _, none⟩) (by first | exact far1 hw436_1 GW442.out | exact far2 hw436_1 GW442.out | exact far3 hw436_1 GW442.out | exact far4 hw436_1 GW442.out) _).trans (((cell_far (p := ⟨gb442, _, none⟩) (by first | exact far1 hw436_1 GW442.out | exact far2 hw436_1 GW442.out | exact far3 hw436_1 GW442.out | exact far4 hw436_1 GW442.out) _).trans (((cell_far (p := ⟨gb442, _, none⟩) (by first | exact far1 hw436_1 GW442.out | exact far2 hw436_1 GW442.out | exact far3 hw436_1 GW442.out | exact far4 hw436_1 GW442.out) _).trans (hHeld.2.2.2.2.2.2.1)))))))), ((cell_far (p := ⟨gb442, _, none⟩) (by first | exact far1 hw436_2 GW442.out | exact far2 hw436_2 GW442.out | exact far3 hw436_2 GW442.out | exact far4 hw436_2 GW442.out) _).trans (((cell_far (p := ⟨gb442, _, none⟩) (by first | exact far1 hw436_2 GW442.out | exact far2 hw436_2 GW442.out | exact far3 hw436_2 GW442.out | exact far4 hw436_2 GW442.out) _).trans (((cell_far (p := ⟨gb442, _, none⟩) (by first | exact far1 hw436_2 GW442.out | exact far2 hw436_2 GW442.out | exact far3 hw436_2 GW442.out | exact far4 hw436_2 GW442.out) _).trans (((cell_far (p := ⟨gb442, _, none⟩) (by first | exact far1 hw436_2 GW442.out | exact far2 hw436_2 GW442.out | exact far3 hw436_2 GW442.out | exact far4 hw436_2 GW442.out) _).trans (hHeld.2.2.2.2.2.2.2.1)))))))), ((cell_far (p := ⟨gb442, _, none⟩) (by first | exact far1 hw436_3 GW442.out | exact far2 hw436_3 GW442.out | exact far3 hw436_3 GW442.out | exact far4 hw436_3 GW442.out) _).trans (((cell_far (p := ⟨gb442, _, none⟩) (by first | exact far1 hw436_3 GW442.out | exact far2 hw436_3 GW442.out | exact far3 hw436_3 GW442.out | exact far4 hw436_3 GW442.out) _).trans (((cell_far (p := ⟨gb442, _, none⟩) (by first | exact far1 hw436_3 GW442.out | exact far2 hw436_3 GW442.out | exact far3 hw436_3 GW442.out | exact far4 hw436_3 GW442.out) _).trans (((cell_far (p := ⟨gb442, _, none⟩) (by first | exact far1 hw436_3 GW442.out | exact far2 hw436_3 GW442.out | exact far3 hw436_3 GW442.out | exact far4 hw436_3 GW442.out) _).trans (hHeld.2.2.2.2.2.2.2.2))))))))⟩ (fun hHeld => ?_)
                                                clear hK K
                                                refine pure_ (i := 18) (N := some 12) (v := ?_) (a' := ?_) #[true, true, true, true, true, true, true, true, true, true, true, true, true, true, true, true, true, true, true] rfl rfl (any_of HT_.out (by kernel_rfl)) (fun _ _ _ h => h) (Or.inl ⟨by rfl, ?_⟩) ?_ ?_
                                                rotate_left
                                                · intro w'
                                                  go_simp
                                                  with_reducible rfl
                                                rotate_left
                                                · simp only [Act.put, List.setIfInBounds_toArray, List.set_cons_zero, List.set_cons_succ, i64_w, i32_w, IntKind.wrap_u8, IntKind.wrap_u16, IntKind.wrap_u32]
                                                  rfl
                                                refine done_ (done_of HT_.out (by kernel_rfl)) ?_
                                                try go_wp2
                                                have n0_ : Aside0 (((((w122.setCell ⟨gb442, 0, none⟩ (.int .i64 t437)).setCell ⟨gb442, 1, none⟩ (.int .i64 t438)).setCell ⟨gb442, 2, none⟩ (.string t439)).setCell ⟨gb442, 3, none⟩ (.bool t440)).heap[gb442]? = some (.cells #[.int .i64 t437, .int .i64 t438, .string t439, .bool t440] 26 (0, 0))) := ⟨by (with_reducible repeat (first | refine blk_drewN ?_ _ | refine blk_drew ?_ | refine blk_alloc ?_ _)); refine blk_put (cs := #[.int .i64 t437, .int .i64 t438, .string t439, .bool false]) ?_ 3 _ rfl; (with_reducible repeat (first | refine blk_drewN ?_ _ | refine blk_drew ?_ | refine blk_alloc ?_ _)); refine blk_put (cs := #[.int .i64 t437, .int .i64 t438, .string (⟨#[]⟩ : ByteArray), .bool false]) ?_ 2 _ rfl; (with_reducible repeat (first | refine blk_drewN ?_ _ | refine blk_drew ?_ | refine blk_alloc ?_ _)); refine blk_put (cs := #[.int .i64 t437, .int .i64 0, .string (⟨#[]⟩ : ByteArray), .bool false]) ?_ 1 _ rfl; (with_reducible repeat (first | refine blk_drewN ?_ _ | refine blk_drew ?_ | refine blk_alloc ?_ _)); refine blk_put (cs := #[.int .i64 0, .int .i64 0, .string (⟨#[]⟩ : ByteArray), .bool false]) ?_ 0 _ rfl; (with_reducible repeat (first | refine blk_drewN ?_ _ | refine blk_drew ?_ | refine blk_alloc ?_ _)); exact BK442.out⟩
                                                have n1_ : Aside0 (Below w.heap.size w ((((w122.setCell ⟨gb442, 0, none⟩ (.int .i64 t437)).setCell ⟨gb442, 1, none⟩ (.int .i64 t438)).setCell ⟨gb442, 2, none⟩ (.string t439)).setCell ⟨gb442, 3, none⟩ (.bool t440))) := ⟨by repeat (first | (with_reducible first | exact HB.out | apply below_alloc | apply pw_below_drewN | apply below_drew1 | refine below_set ?_ GE442.out) | exact HB.out)⟩
                                                (try clear BK442)
                                                (try clear HB)
                                                generalize ((((w122.setCell ⟨gb442, 0, none⟩ (.int .i64 t437)).setCell ⟨gb442, 1, none⟩ (.int .i64 t438)).setCell ⟨gb442, 2, none⟩ (.string t439)).setCell ⟨gb442, 3, none⟩ (.bool t440)) = w127 at n0_ n1_ ⊢
                                                have BK442 := n0_
                                                have HB := n1_
                                                clear n0_ n1_
                                                have n0_ := Aside0.mk (blk_drew BK442.out)
                                                have n1_ := Aside0.mk (below_drew1 HB.out)
                                                clear BK442
                                                clear HB
                                                have BK442 := n0_
                                                have HB := n1_
                                                clear n0_ n1_
                                                have p443 : 0 ≤ (x10_3 : Int) := of_decide_eq_true (by first | (with_reducible assumption) | assumption)
                                                have q443 : x10_3 < (l0.length : Int) := of_decide_eq_true (by first | (with_reducible assumption) | assumption)
                                                obtain ⟨ad443, e443, hx443_0⟩ := Kd.at_int HR0.out x10_3 p443 q443
                                                have hw443_0 := hx443_0
                                                obtain rfl : ad434 = ad443 := (by injection e443)
                                                replace hx443_0 := (HB.out.cell (World.block_lt_of_cell? w _ hx443_0)).trans hx443_0
                                                replace p443 := eq_true p443
                                                replace q443 := eq_true q443
                                                have p444 : 0 ≤ (x6_1 : Int) := of_decide_eq_true (by first | (with_reducible assumption) | assumption)
                                                have q444 : x6_1 < (l1.length : Int) := of_decide_eq_true (by first | (with_reducible assumption) | assumption)
                                                obtain ⟨ad444, e444, hx444_0, hx444_1, hx444_2, hx444_3⟩ := at_T26 HR1.out x6_1 p444 q444
                                                have hw444_3 := hx444_3
                                                have hw444_2 := hx444_2
                                                have hw444_1 := hx444_1
                                                have hw444_0 := hx444_0
                                                obtain rfl : ad428 = ad444 := (by injection e444)
                                                replace hx444_0 := (HB.out.cell (World.block_lt_of_cell? w _ hx444_0)).trans hx444_0
                                                replace hx444_1 := (HB.out.cell (World.block_lt_of_cell? w _ hx444_1)).trans hx444_1
                                                replace hx444_2 := (HB.out.cell (World.block_lt_of_cell? w _ hx444_2)).trans hx444_2
                                                replace hx444_3 := (HB.out.cell (World.block_lt_of_cell? w _ hx444_3)).trans hx444_3
                                                replace p444 := eq_true p444
                                                replace q444 := eq_true q444
                                                have p445 : 0 ≤ (x7_2 : Int) := of_decide_eq_true (by first | (with_reducible assumption) | assumption)
                                                have q445 : x7_2 < (l1.length : Int) := of_decide_eq_true (by first | (with_reducible assumption) | assumption)
                                                obtain ⟨ad445, e445, hx445_0, hx445_1, hx445_2, hx445_3⟩ := at_T26 HR1.out x7_2 p445 q445
                                                have hw445_3 := hx445_3
                                                have hw445_2 := hx445_2
                                                have hw445_1 := hx445_1
                                                have hw445_0 := hx445_0
                                                obtain rfl : ad428 = ad445 := (by injection e445)
                                                replace hx445_0 := (HB.out.cell (World.block_lt_of_cell? w _ hx445_0)).trans hx445_0
                                                replace hx445_1 := (HB.out.cell (World.block_lt_of_cell? w _ hx445_1)).trans hx445_1
                                                replace hx445_2 := (HB.out.cell (World.block_lt_of_cell? w _ hx445_2)).trans hx445_2
                                                replace hx445_3 := (HB.out.cell (World.block_lt_of_cell? w _ hx445_3)).trans hx445_3
                                                replace p445 := eq_true p445
                                                replace q445 := eq_true q445
                                                refine start_ (n := 19) (S := fun w' => w'.cell? (ad434.add (x10_3).toNat) = some (.int .i64 (rd l0 x10_3)) ∧ w'.cell? (ad428.add ((x6_1).toNat * 4)) = some (.int .i64 ((rd_T26 l1 x6_1).f0)) ∧ w'.cell? ⟨(ad428.add ((x6_1).toNat * 4)).block, (ad428.add ((x6_1).toNat * 4)).off + 1, none⟩ = some (.int .i64 ((rd_T26 l1 x6_1).f1)) ∧ w'.cell? ⟨(ad428.add ((x6_1).toNat * 4)).block, (ad428.add ((x6_1).toNat * 4)).off + 2, none⟩ = some (.string ((rd_T26 l1 x6_1).f2)) ∧ w'.cell? ⟨(ad428.add ((x6_1).toNat * 4)).block, (ad428.add ((x6_1).toNat * 4)).off + 3, none⟩ = some (.bool ((rd_T26 l1 x6_1).f3)) ∧ w'.cell? (ad428.add ((x7_2).toNat * 4)) = some (.int .i64 ((rd_T26 l1 x7_2).f0)) ∧ w'.cell? ⟨(ad428.add ((x7_2).toNat * 4)).block, (ad428.add ((x7_2).toNat * 4)).off + 1, none⟩ = some (.int .i64 ((rd_T26 l1 x7_2).f1)) ∧ w'.cell? ⟨(ad428.add ((x7_2).toNat * 4)).block, (ad428.add ((x7_2).toNat * 4)).off + 2, none⟩ = some (.string ((rd_T26 l1 x7_2).f2)) ∧ w'.cell? ⟨(ad428.add ((x7_2).toNat * 4)).block, (ad428.add ((x7_2).toNat * 4)).off + 3, none⟩ = some (.bool ((rd_T26 l1 x7_2).f3))) (ds := []) #[false, false, false, false, false, false, false, false, false, false, false, false, false, false, false, false, false, false, false] (by kernel_rfl) rfl rfl ⟨((HB.out.cell (World.block_lt_of_cell? w _ hw443_0)).trans hw443_0), ((HB.out.cell (World.block_lt_of_cell? w _ hw444_0)).trans hw444_0), ((HB.out.cell (World.block_lt_of_cell? w _ hw444_1)).trans hw444_1), ((HB.out.cell (World.block_lt_of_cell? w _ hw444_2)).trans hw444_2), ((HB.out.cell (World.block_lt_of_cell? w _ hw444_3)).trans hw444_3), ((HB.out.cell (World.block_lt_of_cell? w _ hw445_0)).trans hw445_0), ((HB.out.cell (World.block_lt_of_cell? w _ hw445_1)).trans hw445_1), ((HB.out.cell (World.block_lt_of_cell? w _ hw445_2)).trans hw445_2), ((HB.out.cell (World.block_lt_of_cell? w _ hw445_3)).trans hw445_3)⟩ (fun hHeld => ?_); refine with_tabW refrainlaw1_ValueOps.tab18 refrainlaw1_ValueOps.bits18 (fun HT_ HW_ => ?_)
                                                generalize w127.drew = w128 at BK442 HB hx443_0 hx444_0 hx444_1 hx444_2 hx444_3 hx445_0 hx445_1 hx445_2 hx445_3 hHeld ⊢
                                                refine pure_ (i := 0) (N := some 78) (v := ?_) (a' := ?_) #[true, false, false, false, false, false, false, false, false, false, false, false, false, false, false, false, false, false, false] rfl rfl (any_of HT_.out (by kernel_rfl)) (fun _ _ _ h => h) (Or.inl ⟨by rfl, ?_⟩) ?_ ?_
                                                rotate_left
                                                · intro w'
                                                  go_simp
                                                  with_reducible rfl
                                                rotate_left
                                                · simp only [Act.put, List.setIfInBounds_toArray, List.set_cons_zero, List.set_cons_succ, i64_w, i32_w, IntKind.wrap_u8, IntKind.wrap_u16, IntKind.wrap_u32]
                                                  rfl
                                                refine pure_ (i := 1) (N := some 79) (v := ?_) (a' := ?_) #[true, true, false, false, false, false, false, false, false, false, false, false, false, false, false, false, false, false, false] rfl rfl (any_of HT_.out (by kernel_rfl)) (fun _ _ _ h => h) (Or.inl ⟨by rfl, ?_⟩) ?_ ?_
                                                rotate_left
                                                · intro w'
                                                  go_simp
                                                  with_reducible rfl
                                                rotate_left
                                                · simp only [Act.put, List.setIfInBounds_toArray, List.set_cons_zero, List.set_cons_succ, i64_w, i32_w, IntKind.wrap_u8, IntKind.wrap_u16, IntKind.wrap_u32]
                                                  rfl
                                                refine pure_ (i := 2) (N := some 80) (v := ?_) (a' := ?_) #[true, true, true, false, false, false, false, false, false, false, false, false, false, false, false, false, false, false, false] rfl rfl (any_of HT_.out (by kernel_rfl)) (fun _ _ _ h => h) (Or.inl ⟨by rfl, ?_⟩) ?_ ?_
                                                rotate_left
                                                · intro w'
                                                  go_simp
                                                  with_reducible rfl
                                                rotate_left
                                                · simp only [Act.put, List.setIfInBounds_toArray, List.set_cons_zero, List.set_cons_succ, i64_w, i32_w, IntKind.wrap_u8, IntKind.wrap_u16, IntKind.wrap_u32]
                                                  rfl
                                                refine pure_ (i := 4) (N := some 82) (v := ?_) (a' := ?_) #[true, true, true, false, true, false, false, false, false, false, false, false, false, false, false, false, false, false, false] rfl rfl (any_of HT_.out (by kernel_rfl)) (fun _ _ _ h => h) (Or.inl ⟨by rfl, ?_⟩) ?_ ?_
                                                rotate_left
                                                · intro w'
                                                  go_simp
                                                  with_reducible rfl
                                                rotate_left
                                                · simp only [Act.put, List.setIfInBounds_toArray, List.set_cons_zero, List.set_cons_succ, i64_w, i32_w, IntKind.wrap_u8, IntKind.wrap_u16, IntKind.wrap_u32]
                                                  rfl
                                                refine pure_ (i := 5) (N := some 83) (v := ?_) (a' := ?_) #[true, true, true, false, true, true, false, false, false, false, false, false, false, false, false, false, false, false, false] rfl rfl (any_of HT_.out (by kernel_rfl)) (fun _ _ _ h => h) (Or.inl ⟨by rfl, ?_⟩) ?_ ?_
                                                rotate_left
                                                · intro w'
                                                  go_simp
                                                  with_reducible rfl
                                                rotate_left
                                                · simp only [Act.put, List.setIfInBounds_toArray, List.set_cons_zero, List.set_cons_succ, i64_w, i32_w, IntKind.wrap_u8, IntKind.wrap_u16, IntKind.wrap_u32]
                                                  rfl
                                                refine pure_ (i := 6) (N := some 84) (v := ?_) (a' := ?_) #[true, true, true, false, true, true, true, false, false, false, false, false, false, false, false, false, false, false, false] rfl rfl (any_of HT_.out (by kernel_rfl)) (fun _ _ _ h => h) (Or.inl ⟨by rfl, ?_⟩) ?_ ?_
                                                rotate_left
                                                · intro w'
                                                  go_simp
                                                  with_reducible rfl
                                                rotate_left
                                                · simp only [Act.put, List.setIfInBounds_toArray, List.set_cons_zero, List.set_cons_succ, i64_w, i32_w, IntKind.wrap_u8, IntKind.wrap_u16, IntKind.wrap_u32]
                                                  rfl
                                                refine pure_ (i := 8) (N := some 86) (v := ?_) (a' := ?_) #[true, true, true, false, true, true, true, false, true, false, false, false, false, false, false, false, false, false, false] rfl rfl (any_of HT_.out (by kernel_rfl)) (fun _ _ _ h => h) (Or.inl ⟨by rfl, ?_⟩) ?_ ?_
                                                rotate_left
                                                · intro w'
                                                  go_simp
                                                  with_reducible rfl
                                                rotate_left
                                                · simp only [Act.put, List.setIfInBounds_toArray, List.set_cons_zero, List.set_cons_succ, i64_w, i32_w, IntKind.wrap_u8, IntKind.wrap_u16, IntKind.wrap_u32]
                                                  rfl
                                                refine pure_ (i := 9) (N := some 87) (v := ?_) (a' := ?_) #[true, true, true, false, true, true, true, false, true, true, false, false, false, false, false, false, false, false, false] rfl rfl (any_of HT_.out (by kernel_rfl)) (fun _ _ _ h => h) (Or.inl ⟨by rfl, ?_⟩) ?_ ?_
                                                rotate_left
                                                · intro w'
                                                  go_simp
                                                  with_reducible rfl
                                                rotate_left
                                                · simp only [Act.put, List.setIfInBounds_toArray, List.set_cons_zero, List.set_cons_succ, i64_w, i32_w, IntKind.wrap_u8, IntKind.wrap_u16, IntKind.wrap_u32]
                                                  rfl
                                                refine pure_ (i := 10) (N := some 88) (v := ?_) (a' := ?_) #[true, true, true, false, true, true, true, false, true, true, true, false, false, false, false, false, false, false, false] rfl rfl (any_of HT_.out (by kernel_rfl)) (fun _ _ _ h => h) (Or.inl ⟨by rfl, ?_⟩) ?_ ?_
                                                rotate_left
                                                · intro w'
                                                  go_simp
                                                  with_reducible rfl
                                                rotate_left
                                                · simp only [Act.put, List.setIfInBounds_toArray, List.set_cons_zero, List.set_cons_succ, i64_w, i32_w, IntKind.wrap_u8, IntKind.wrap_u16, IntKind.wrap_u32]
                                                  rfl
                                                refine take_ (i := 3) (N := some 81) (v := ?_) (a' := ?_) #[true, true, true, true, true, true, true, false, true, true, true, false, false, false, false, false, false, false, false] rfl rfl (take_ofW HT_.out HW_.out (by kernel_rfl)) (fun _ _ _ h => h) (Or.inl ⟨by rfl, ?_⟩) hHeld ?_ ?_
                                                rotate_left
                                                · rintro w' ⟨s0, s1, s2, s3, s4, s5, s6, s7, s8⟩
                                                  go_simp
                                                  with_reducible rfl
                                                rotate_left
                                                · simp only [Act.put, List.setIfInBounds_toArray, List.set_cons_zero, List.set_cons_succ, i64_w, i32_w, IntKind.wrap_u8, IntKind.wrap_u16, IntKind.wrap_u32]
                                                  rfl
                                                refine take_ (i := 7) (N := some 85) (v := ?_) (a' := ?_) #[true, true, true, true, true, true, true, true, true, true, true, false, false, false, false, false, false, false, false] rfl rfl (take_ofW HT_.out HW_.out (by kernel_rfl)) (fun _ _ _ h => h) (Or.inl ⟨by rfl, ?_⟩) hHeld ?_ ?_
                                                rotate_left
                                                · rintro w' ⟨s0, s1, s2, s3, s4, s5, s6, s7, s8⟩
                                                  go_simp
                                                  with_reducible rfl
                                                rotate_left
                                                · simp only [Act.put, List.setIfInBounds_toArray, List.set_cons_zero, List.set_cons_succ, i64_w, i32_w, IntKind.wrap_u8, IntKind.wrap_u16, IntKind.wrap_u32]
                                                  rfl
                                                refine take_ (i := 11) (N := some 89) (v := ?_) (a' := ?_) #[true, true, true, true, true, true, true, true, true, true, true, true, false, false, false, false, false, false, false] rfl rfl (take_ofW HT_.out HW_.out (by kernel_rfl)) (fun _ _ _ h => h) (Or.inl ⟨by rfl, ?_⟩) hHeld ?_ ?_
                                                rotate_left
                                                · rintro w' ⟨s0, s1, s2, s3, s4, s5, s6, s7, s8⟩
                                                  go_simp
                                                  with_reducible rfl
                                                rotate_left
                                                · simp only [Act.put, List.setIfInBounds_toArray, List.set_cons_zero, List.set_cons_succ, i64_w, i32_w, IntKind.wrap_u8, IntKind.wrap_u16, IntKind.wrap_u32]
                                                  rfl
                                                refine join_ (σ := Nat) 2 #[true, true, true, true, true, true, true, true, true, true, true, true, true, true, true, true, true, false, false] (fun s_ => [(90, .tuple #[.agg #[.int .i64 t446, .int .i64 t447, .string t448, .bool t449], .int .i64 t450]), (13, .pointer (some ⟨s_, 0, none⟩)), (77, .tuple #[.agg #[.int .i64 t446, .int .i64 t447, .string t448, .bool t449], .int .i64 t450]), (91, .agg #[.int .i64 t446, .int .i64 t447, .string t448, .bool t449]), (92, .int .i64 t450)]) (fun s_ w' => (w'.cell? (ad434.add (x10_3).toNat) = some (.int .i64 (rd l0 x10_3)) ∧ w'.cell? (ad428.add ((x6_1).toNat * 4)) = some (.int .i64 ((rd_T26 l1 x6_1).f0)) ∧ w'.cell? ⟨(ad428.add ((x6_1).toNat * 4)).block, (ad428.add ((x6_1).toNat * 4)).off + 1, none⟩ = some (.int .i64 ((rd_T26 l1 x6_1).f1)) ∧ w'.cell? ⟨(ad428.add ((x6_1).toNat * 4)).block, (ad428.add ((x6_1).toNat * 4)).off + 2, none⟩ = some (.string ((rd_T26 l1 x6_1).f2)) ∧ w'.cell? ⟨(ad428.add ((x6_1).toNat * 4)).block, (ad428.add ((x6_1).toNat * 4)).off + 3, none⟩ = some (.bool ((rd_T26 l1 x6_1).f3)) ∧ w'.cell? (ad428.add ((x7_2).toNat * 4)) = some (.int .i64 ((rd_T26 l1 x7_2).f0)) ∧ w'.cell? ⟨(ad428.add ((x7_2).toNat * 4)).block, (ad428.add ((x7_2).toNat * 4)).off + 1, none⟩ = some (.int .i64 ((rd_T26 l1 x7_2).f1)) ∧ w'.cell? ⟨(ad428.add ((x7_2).toNat * 4)).block, (ad428.add ((x7_2).toNat * 4)).off + 2, none⟩ = some (.string ((rd_T26 l1 x7_2).f2)) ∧ w'.cell? ⟨(ad428.add ((x7_2).toNat * 4)).block, (ad428.add ((x7_2).toNat * 4)).off + 3, none⟩ = some (.bool ((rd_T26 l1 x7_2).f3))) ∧ (w'.heap[gb442]? = some (.cells #[.int .i64 t437, .int .i64 t438, .string t439, .bool t440] 26 (0, 0))) ∧ (w'.heap[s_]? = some (.cells #[.int .i64 0, .int .i64 0, .string (⟨#[]⟩ : ByteArray), .bool false] 26 (0, 0))) ∧ (w.heap.size ≤ s_) ∧ (w.heap.size ≤ s_) ∧ (gb442 ≠ s_) ∧ (s_ ≠ gb442) ∧ (Below w.heap.size w w')) ?_ ?_
                                                rotate_left
                                                · intro hCont
                                                  refine two_ (i := 12) (j := 16) (Ni := some 90) (Nj := some 13) #[true, true, true, true, true, true, true, true, true, true, true, true, true, false, false, false, false, false, false] #[true, true, true, true, true, true, true, true, true, true, true, true, false, false, false, false, true, false, false] rfl rfl rfl rfl (two_of HT_.out (by kernel_rfl)) (by decide) (by decide) (fun K hK => ?_) (fun K hK => ?_)
                                                  · skip
                                                    refine goes_ Tryd.func21 (by kernel_rfl) rfl #[.int .i64 (rd l0 x10_3), .agg #[.int .i64 ((rd_T26 l1 x6_1).f0), .int .i64 ((rd_T26 l1 x6_1).f1), .string ((rd_T26 l1 x6_1).f2), .bool ((rd_T26 l1 x6_1).f3)], .agg #[.int .i64 ((rd_T26 l1 x7_2).f0), .int .i64 ((rd_T26 l1 x7_2).f1), .string ((rd_T26 l1 x7_2).f2), .bool ((rd_T26 l1 x7_2).f3)]] (by rfl) rfl rfl (by (try simp only [List.map_toArray, List.map_cons, List.map_nil]); first | done | rfl | (simp only [List.length_drop, List.length_take]; rfl)) ?_
                                                    with_reducible refine (refrainref1_Binary.calls (rd l0 x10_3) ((rd_T26 l1 x6_1).f0) ((rd_T26 l1 x6_1).f1) ((rd_T26 l1 x6_1).f2) ((rd_T26 l1 x6_1).f3) ((rd_T26 l1 x7_2).f0) ((rd_T26 l1 x7_2).f1) ((rd_T26 l1 x7_2).f2) ((rd_T26 l1 x7_2).f3) t446 t447 t448 t449 t450 _ A25.out).mono ?_
                                                    rintro e w129 ⟨rfl, hb⟩
                                                    refine ⟨_, rfl, ?_⟩
                                                    have n0_ := Aside0.mk (blk_below (g := gb442) (o := .cells #[.int .i64 t437, .int .i64 t438, .string t439, .bool t440] 26 (0, 0)) (by (with_reducible repeat (first | refine blk_drewN ?_ _ | refine blk_drew ?_ | refine blk_alloc ?_ _)); exact BK442.out) hb)
                                                    have n1_ := Aside0.mk (below_step (by repeat (first | (with_reducible first | exact HB.out | apply below_alloc | apply pw_below_drewN | apply below_drew1 | refine below_set ?_ GE442.out) | exact HB.out)) hb)
                                                    clear BK442
                                                    clear HB
                                                    have BK442 := n0_
                                                    have HB := n1_
                                                    clear n0_ n1_
                                                    (try clear hb)
                                                    (try clear hb2)
                                                    (try clear hk)
                                                    (try clear hi)
                                                    refine hK.out _ _ ⟨((HB.out.cell (World.block_lt_of_cell? w _ hw443_0)).trans hw443_0), ((HB.out.cell (World.block_lt_of_cell? w _ hw444_0)).trans hw444_0), ((HB.out.cell (World.block_lt_of_cell? w _ hw444_1)).trans hw444_1), ((HB.out.cell (World.block_lt_of_cell? w _ hw444_2)).trans hw444_2), ((HB.out.cell (World.block_lt_of_cell? w _ hw444_3)).trans hw444_3), ((HB.out.cell (World.block_lt_of_cell? w _ hw445_0)).trans hw445_0), ((HB.out.cell (World.block_lt_of_cell? w _ hw445_1)).trans hw445_1), ((HB.out.cell (World.block_lt_of_cell? w _ hw445_2)).trans hw445_2), ((HB.out.cell (World.block_lt_of_cell? w _ hw445_3)).trans hw445_3)⟩ (fun hHeld => ?_)
                                                    clear hK K
                                                    refine norm_ (a' := ?_) ?_ ?_
                                                    rotate_left
                                                    · show Act.put _ (some 90) _ = _
                                                      simp only [Act.put, List.setIfInBounds_toArray, List.set_cons_zero, List.set_cons_succ, i64_w, i32_w, IntKind.wrap_u8, IntKind.wrap_u16, IntKind.wrap_u32]
                                                      rfl
                                                    refine pure_ (i := 13) (N := some 77) (v := ?_) (a' := ?_) #[true, true, true, true, true, true, true, true, true, true, true, true, true, true, false, false, false, false, false] rfl rfl (any_of HT_.out (by kernel_rfl)) (fun _ _ _ h => h) (Or.inl ⟨by rfl, ?_⟩) ?_ ?_
                                                    rotate_left
                                                    · intro w'
                                                      go_simp
                                                      with_reducible rfl
                                                    rotate_left
                                                    · simp only [Act.put, List.setIfInBounds_toArray, List.set_cons_zero, List.set_cons_succ, i64_w, i32_w, IntKind.wrap_u8, IntKind.wrap_u16, IntKind.wrap_u32]
                                                      rfl
                                                    refine pure_ (i := 14) (N := some 91) (v := ?_) (a' := ?_) #[true, true, true, true, true, true, true, true, true, true, true, true, true, true, true, false, false, false, false] rfl rfl (any_of HT_.out (by kernel_rfl)) (fun _ _ _ h => h) (Or.inl ⟨by rfl, ?_⟩) ?_ ?_
                                                    rotate_left
                                                    · intro w'
                                                      go_simp
                                                      with_reducible rfl
                                                    rotate_left
                                                    · simp only [Act.put, List.setIfInBounds_toArray, List.set_cons_zero, List.set_cons_succ, i64_w, i32_w, IntKind.wrap_u8, IntKind.wrap_u16, IntKind.wrap_u32]
                                                      rfl
                                                    refine pure_ (i := 15) (N := some 92) (v := ?_) (a' := ?_) #[true, true, true, true, true, true, true, true, true, true, true, true, true, true, true, true, false, false, false] rfl rfl (any_of HT_.out (by kernel_rfl)) (fun _ _ _ h => h) (Or.inl ⟨by rfl, ?_⟩) ?_ ?_
                                                    rotate_left
                                                    · intro w'
                                                      go_simp
                                                      with_reducible rfl
                                                    rotate_left
                                                    · simp only [Act.put, List.setIfInBounds_toArray, List.set_cons_zero, List.set_cons_succ, i64_w, i32_w, IntKind.wrap_u8, IntKind.wrap_u16, IntKind.wrap_u32]
                                                      rfl
                                                    refine one_ (i := 16) (N := some 13) #[true, true, true, true, true, true, true, true, true, true, true, true, true, true, true, true, true, false, false] rfl rfl (one_of HT_.out (by kernel_rfl)) (by decide) (fun K hK => ?_)
                                                    refine box_step ?hg (N := 13) ?hd (cs := #[.int .i64 0, .int .i64 0, .string (⟨#[]⟩ : ByteArray), .bool false]) (t := 26) ?hr ?_; (case hd => rfl); (case hg => rfl); (case hr => first | (go_simp; done) | (go_simp; rfl))
                                                    intro gb451 hg w130 hbox hb
                                                    have n0_ := Aside0.mk (blk_below (g := gb442) (o := .cells #[.int .i64 t437, .int .i64 t438, .string t439, .bool t440] 26 (0, 0)) (by (with_reducible repeat (first | refine blk_drewN ?_ _ | refine blk_drew ?_ | refine blk_alloc ?_ _)); exact BK442.out) hb)
                                                    have n1_ := Aside0.mk (below_step (by repeat (first | (with_reducible first | exact HB.out | apply below_alloc | apply pw_below_drewN | apply below_drew1 | refine below_set ?_ GE442.out) | exact HB.out)) hb)
                                                    have n2_ := Aside0.mk (hbox)
                                                    have n3_ := Aside0.mk ((by rw [hg]; exact (below_size (by repeat (first | (with_reducible first | exact HB.out | apply below_alloc | apply pw_below_drewN | apply below_drew1 | refine below_set ?_ GE442.out) | exact HB.out))) : w.heap.size ≤ gb451))
                                                    have n4_ := Aside0.mk ((by rw [hg]; exact (below_size (by repeat (first | (with_reducible first | exact HB.out | apply below_alloc | apply pw_below_drewN | apply below_drew1 | refine below_set ?_ GE442.out) | exact HB.out))) : w.heap.size ≤ gb451))
                                                    have n5_ := Aside0.mk ((by rw [hg]; exact Nat.ne_of_lt (blk_lt (g := gb442) (o := .cells #[.int .i64 t437, .int .i64 t438, .string t439, .bool t440] 26 (0, 0)) (by (with_reducible repeat (first | refine blk_drewN ?_ _ | refine blk_drew ?_ | refine blk_alloc ?_ _)); exact BK442.out)) : gb442 ≠ gb451))
                                                    have n6_ := Aside0.mk ((by rw [hg]; exact Nat.ne_of_gt (blk_lt (g := gb442) (o := .cells #[.int .i64 t437, .int .i64 t438, .string t439, .bool t440] 26 (0, 0)) (by (with_reducible repeat (first | refine blk_drewN ?_ _ | refine blk_drew ?_ | refine blk_alloc ?_ _)); exact BK442.out)) : gb451 ≠ gb442))
                                                    clear BK442
                                                    clear HB
                                                    have BK442 := n0_
                                                    have HB := n1_
                                                    have BK451 := n2_
                                                    have GW451 := n3_
                                                    have GE451 := n4_
                                                    have NB442_451 := n5_
                                                    have NB451_442 := n6_
                                                    clear n0_ n1_ n2_ n3_ n4_ n5_ n6_
                                                    clear hb hbox hg
                                                    refine hK.out _ _ ⟨((HB.out.cell (World.block_lt_of_cell? w _ hw443_0)).trans hw443_0), ((HB.out.cell (World.block_lt_of_cell? w _ hw444_0)).trans hw444_0), ((HB.out.cell (World.block_lt_of_cell? w _ hw444_1)).trans hw444_1), ((HB.out.cell (World.block_lt_of_cell? w _ hw444_2)).trans hw444_2), ((HB.out.cell (World.block_lt_of_cell? w _ hw444_3)).trans hw444_3), ((HB.out.cell (World.block_lt_of_cell? w _ hw445_0)).trans hw445_0), ((HB.out.cell (World.block_lt_of_cell? w _ hw445_1)).trans hw445_1), ((HB.out.cell (World.block_lt_of_cell? w _ hw445_2)).trans hw445_2), ((HB.out.cell (World.block_lt_of_cell? w _ hw445_3)).trans hw445_3)⟩ (fun hHeld => ?_)
                                                    clear hK K
                                                    refine norm_ (a' := ?_) ?_ ?_
                                                    rotate_left
                                                    · show Act.put _ (some 13) _ = _
                                                      simp only [Act.put, List.setIfInBounds_toArray, List.set_cons_zero, List.set_cons_succ, i64_w, i32_w, IntKind.wrap_u8, IntKind.wrap_u16, IntKind.wrap_u32]
                                                      rfl
                                                    exact norm_ (by simp only [putAll, Act.put, List.setIfInBounds_toArray, List.set_cons_zero, List.set_cons_succ]) (hCont (gb451) _ ⟨hHeld, (by (with_reducible repeat (first | refine blk_drewN ?_ _ | refine blk_drew ?_ | refine blk_alloc ?_ _)); exact BK442.out), (by (with_reducible repeat (first | refine blk_drewN ?_ _ | refine blk_drew ?_ | refine blk_alloc ?_ _)); exact BK451.out), GW451.out, GE451.out, NB442_451.out, NB451_442.out, (by repeat (first | (with_reducible first | exact HB.out | apply below_alloc | apply pw_below_drewN | apply below_drew1 | refine below_set ?_ GE442.out | refine below_set ?_ GE451.out) | exact HB.out))⟩)
                                                  · skip
                                                    refine box_step ?hg (N := 13) ?hd (cs := #[.int .i64 0, .int .i64 0, .string (⟨#[]⟩ : ByteArray), .bool false]) (t := 26) ?hr ?_; (case hd => rfl); (case hg => rfl); (case hr => first | (go_simp; done) | (go_simp; rfl))
                                                    intro gb451 hg w129 hbox hb
                                                    have n0_ := Aside0.mk (blk_below (g := gb442) (o := .cells #[.int .i64 t437, .int .i64 t438, .string t439, .bool t440] 26 (0, 0)) (by (with_reducible repeat (first | refine blk_drewN ?_ _ | refine blk_drew ?_ | refine blk_alloc ?_ _)); exact BK442.out) hb)
                                                    have n1_ := Aside0.mk (below_step (by repeat (first | (with_reducible first | exact HB.out | apply below_alloc | apply pw_below_drewN | apply below_drew1 | refine below_set ?_ GE442.out) | exact HB.out)) hb)
                                                    have n2_ := Aside0.mk (hbox)
                                                    have n3_ := Aside0.mk ((by rw [hg]; exact (below_size (by repeat (first | (with_reducible first | exact HB.out | apply below_alloc | apply pw_below_drewN | apply below_drew1 | refine below_set ?_ GE442.out) | exact HB.out))) : w.heap.size ≤ gb451))
                                                    have n4_ := Aside0.mk ((by rw [hg]; exact (below_size (by repeat (first | (with_reducible first | exact HB.out | apply below_alloc | apply pw_below_drewN | apply below_drew1 | refine below_set ?_ GE442.out) | exact HB.out))) : w.heap.size ≤ gb451))
                                                    have n5_ := Aside0.mk ((by rw [hg]; exact Nat.ne_of_lt (blk_lt (g := gb442) (o := .cells #[.int .i64 t437, .int .i64 t438, .string t439, .bool t440] 26 (0, 0)) (by (with_reducible repeat (first | refine blk_drewN ?_ _ | refine blk_drew ?_ | refine blk_alloc ?_ _)); exact BK442.out)) : gb442 ≠ gb451))
                                                    have n6_ := Aside0.mk ((by rw [hg]; exact Nat.ne_of_gt (blk_lt (g := gb442) (o := .cells #[.int .i64 t437, .int .i64 t438, .string t439, .bool t440] 26 (0, 0)) (by (with_reducible repeat (first | refine blk_drewN ?_ _ | refine blk_drew ?_ | refine blk_alloc ?_ _)); exact BK442.out)) : gb451 ≠ gb442))
                                                    clear BK442
                                                    clear HB
                                                    have BK442 := n0_
                                                    have HB := n1_
                                                    have BK451 := n2_
                                                    have GW451 := n3_
                                                    have GE451 := n4_
                                                    have NB442_451 := n5_
                                                    have NB451_442 := n6_
                                                    clear n0_ n1_ n2_ n3_ n4_ n5_ n6_
                                                    clear hb hbox hg
                                                    refine hK.out _ _ ⟨((HB.out.cell (World.block_lt_of_cell? w _ hw443_0)).trans hw443_0), ((HB.out.cell (World.block_lt_of_cell? w _ hw444_0)).trans hw444_0), ((HB.out.cell (World.block_lt_of_cell? w _ hw444_1)).trans hw444_1), ((HB.out.cell (World.block_lt_of_cell? w _ hw444_2)).trans hw444_2), ((HB.out.cell (World.block_lt_of_cell? w _ hw444_3)).trans hw444_3), ((HB.out.cell (World.block_lt_of_cell? w _ hw445_0)).trans hw445_0), ((HB.out.cell (World.block_lt_of_cell? w _ hw445_1)).trans hw445_1), ((HB.out.cell (World.block_lt_of_cell? w _ hw445_2)).trans hw445_2), ((HB.out.cell (World.block_lt_of_cell? w _ hw445_3)).trans hw445_3)⟩ (fun hHeld => ?_)
                                                    clear hK K
                                                    refine norm_ (a' := ?_) ?_ ?_
                                                    rotate_left
                                                    · show Act.put _ (some 13) _ = _
                                                      simp only [Act.put, List.setIfInBounds_toArray, List.set_cons_zero, List.set_cons_succ, i64_w, i32_w, IntKind.wrap_u8, IntKind.wrap_u16, IntKind.wrap_u32]
                                                      rfl
                                                    refine one_ (i := 12) (N := some 90) #[true, true, true, true, true, true, true, true, true, true, true, true, true, false, false, false, true, false, false] rfl rfl (one_of HT_.out (by kernel_rfl)) (by decide) (fun K hK => ?_)
                                                    refine goes_ Tryd.func21 (by kernel_rfl) rfl #[.int .i64 (rd l0 x10_3), .agg #[.int .i64 ((rd_T26 l1 x6_1).f0), .int .i64 ((rd_T26 l1 x6_1).f1), .string ((rd_T26 l1 x6_1).f2), .bool ((rd_T26 l1 x6_1).f3)], .agg #[.int .i64 ((rd_T26 l1 x7_2).f0), .int .i64 ((rd_T26 l1 x7_2).f1), .string ((rd_T26 l1 x7_2).f2), .bool ((rd_T26 l1 x7_2).f3)]] (by rfl) rfl rfl (by (try simp only [List.map_toArray, List.map_cons, List.map_nil]); first | done | rfl | (simp only [List.length_drop, List.length_take]; rfl)) ?_
                                                    with_reducible refine (refrainref1_Binary.calls (rd l0 x10_3) ((rd_T26 l1 x6_1).f0) ((rd_T26 l1 x6_1).f1) ((rd_T26 l1 x6_1).f2) ((rd_T26 l1 x6_1).f3) ((rd_T26 l1 x7_2).f0) ((rd_T26 l1 x7_2).f1) ((rd_T26 l1 x7_2).f2) ((rd_T26 l1 x7_2).f3) t446 t447 t448 t449 t450 _ A25.out).mono ?_
                                                    rintro e w130 ⟨rfl, hb⟩
                                                    refine ⟨_, rfl, ?_⟩
                                                    have n0_ := Aside0.mk (blk_below (g := gb442) (o := .cells #[.int .i64 t437, .int .i64 t438, .string t439, .bool t440] 26 (0, 0)) (by (with_reducible repeat (first | refine blk_drewN ?_ _ | refine blk_drew ?_ | refine blk_alloc ?_ _)); exact BK442.out) hb)
                                                    have n1_ := Aside0.mk (blk_below (g := gb451) (o := .cells #[.int .i64 0, .int .i64 0, .string (⟨#[]⟩ : ByteArray), .bool false] 26 (0, 0)) (by (with_reducible repeat (first | refine blk_drewN ?_ _ | refine blk_drew ?_ | refine blk_alloc ?_ _)); exact BK451.out) hb)
                                                    have n2_ := Aside0.mk (below_step (by repeat (first | (with_reducible first | exact HB.out | apply below_alloc | apply pw_below_drewN | apply below_drew1 | refine below_set ?_ GE442.out | refine below_set ?_ GE451.out) | exact HB.out)) hb)
                                                    clear BK442
                                                    clear BK451
                                                    clear HB
                                                    have BK442 := n0_
                                                    have BK451 := n1_
                                                    have HB := n2_
                                                    clear n0_ n1_ n2_
                                                    (try clear hb)
                                                    (try clear hb2)
                                                    (try clear hk)
                                                    (try clear hi)
                                                    refine hK.out _ _ ⟨((HB.out.cell (World.block_lt_of_cell? w _ hw443_0)).trans hw443_0), ((HB.out.cell (World.block_lt_of_cell? w _ hw444_0)).trans hw444_0), ((HB.out.cell (World.block_lt_of_cell? w _ hw444_1)).trans hw444_1), ((HB.out.cell (World.block_lt_of_cell? w _ hw444_2)).trans hw444_2), ((HB.out.cell (World.block_lt_of_cell? w _ hw444_3)).trans hw444_3), ((HB.out.cell (World.block_lt_of_cell? w _ hw445_0)).trans hw445_0), ((HB.out.cell (World.block_lt_of_cell? w _ hw445_1)).trans hw445_1), ((HB.out.cell (World.block_lt_of_cell? w _ hw445_2)).trans hw445_2), ((HB.out.cell (World.block_lt_of_cell? w _ hw445_3)).trans hw445_3)⟩ (fun hHeld => ?_)
                                                    clear hK K
                                                    refine norm_ (a' := ?_) ?_ ?_
                                                    rotate_left
                                                    · show Act.put _ (some 90) _ = _
                                                      simp only [Act.put, List.setIfInBounds_toArray, List.set_cons_zero, List.set_cons_succ, i64_w, i32_w, IntKind.wrap_u8, IntKind.wrap_u16, IntKind.wrap_u32]
                                                      rfl
                                                    refine pure_ (i := 13) (N := some 77) (v := ?_) (a' := ?_) #[true, true, true, true, true, true, true, true, true, true, true, true, true, true, false, false, true, false, false] rfl rfl (any_of HT_.out (by kernel_rfl)) (fun _ _ _ h => h) (Or.inl ⟨by rfl, ?_⟩) ?_ ?_
                                                    rotate_left
                                                    · intro w'
                                                      go_simp
                                                      with_reducible rfl
                                                    rotate_left
                                                    · simp only [Act.put, List.setIfInBounds_toArray, List.set_cons_zero, List.set_cons_succ, i64_w, i32_w, IntKind.wrap_u8, IntKind.wrap_u16, IntKind.wrap_u32]
                                                      rfl
                                                    refine pure_ (i := 14) (N := some 91) (v := ?_) (a' := ?_) #[true, true, true, true, true, true, true, true, true, true, true, true, true, true, true, false, true, false, false] rfl rfl (any_of HT_.out (by kernel_rfl)) (fun _ _ _ h => h) (Or.inl ⟨by rfl, ?_⟩) ?_ ?_
                                                    rotate_left
                                                    · intro w'
                                                      go_simp
                                                      with_reducible rfl
                                                    rotate_left
                                                    · simp only [Act.put, List.setIfInBounds_toArray, List.set_cons_zero, List.set_cons_succ, i64_w, i32_w, IntKind.wrap_u8, IntKind.wrap_u16, IntKind.wrap_u32]
                                                      rfl
                                                    refine pure_ (i := 15) (N := some 92) (v := ?_) (a' := ?_) #[true, true, true, true, true, true, true, true, true, true, true, true, true, true, true, true, true, false, false] rfl rfl (any_of HT_.out (by kernel_rfl)) (fun _ _ _ h => h) (Or.inl ⟨by rfl, ?_⟩) ?_ ?_
                                                    rotate_left
                                                    · intro w'
                                                      go_simp
                                                      with_reducible rfl
                                                    rotate_left
                                                    · simp only [Act.put, List.setIfInBounds_toArray, List.set_cons_zero, List.set_cons_succ, i64_w, i32_w, IntKind.wrap_u8, IntKind.wrap_u16, IntKind.wrap_u32]
                                                      rfl
                                                    exact norm_ (by simp only [putAll, Act.put, List.setIfInBounds_toArray, List.set_cons_zero, List.set_cons_succ]) (hCont (gb451) _ ⟨hHeld, (by (with_reducible repeat (first | refine blk_drewN ?_ _ | refine blk_drew ?_ | refine blk_alloc ?_ _)); exact BK442.out), (by (with_reducible repeat (first | refine blk_drewN ?_ _ | refine blk_drew ?_ | refine blk_alloc ?_ _)); exact BK451.out), GW451.out, GE451.out, NB442_451.out, NB451_442.out, (by repeat (first | (with_reducible first | exact HB.out | apply below_alloc | apply pw_below_drewN | apply below_drew1 | refine below_set ?_ GE442.out | refine below_set ?_ GE451.out) | exact HB.out))⟩)
                                                rintro gb451 w131 ⟨hS_, h0_, h1_, h2_, h3_, h4_, h5_, h6_⟩
                                                have n0_ : Aside0 (w131.heap[gb442]? = some (.cells #[.int .i64 t437, .int .i64 t438, .string t439, .bool t440] 26 (0, 0))) := ⟨h0_⟩
                                                have n1_ : Aside0 (w131.heap[gb451]? = some (.cells #[.int .i64 0, .int .i64 0, .string (⟨#[]⟩ : ByteArray), .bool false] 26 (0, 0))) := ⟨h1_⟩
                                                have n2_ : Aside0 (w.heap.size ≤ gb451) := ⟨h2_⟩
                                                have n3_ : Aside0 (w.heap.size ≤ gb451) := ⟨h3_⟩
                                                have n4_ : Aside0 (gb442 ≠ gb451) := ⟨h4_⟩
                                                have n5_ : Aside0 (gb451 ≠ gb442) := ⟨h5_⟩
                                                have n6_ : Aside0 (Below w.heap.size w w131) := ⟨h6_⟩
                                                clear BK442
                                                clear HB
                                                clear h0_ h1_ h2_ h3_ h4_ h5_ h6_
                                                have BK442 := n0_
                                                have BK451 := n1_
                                                have GW451 := n2_
                                                have GE451 := n3_
                                                have NB442_451 := n4_
                                                have NB451_442 := n5_
                                                have HB := n6_
                                                clear n0_ n1_ n2_ n3_ n4_ n5_ n6_
                                                have hHeld : w131.cell? (ad434.add (x10_3).toNat) = some (.int .i64 (rd l0 x10_3)) ∧ w131.cell? (ad428.add ((x6_1).toNat * 4)) = some (.int .i64 ((rd_T26 l1 x6_1).f0)) ∧ w131.cell? ⟨(ad428.add ((x6_1).toNat * 4)).block, (ad428.add ((x6_1).toNat * 4)).off + 1, none⟩ = some (.int .i64 ((rd_T26 l1 x6_1).f1)) ∧ w131.cell? ⟨(ad428.add ((x6_1).toNat * 4)).block, (ad428.add ((x6_1).toNat * 4)).off + 2, none⟩ = some (.string ((rd_T26 l1 x6_1).f2)) ∧ w131.cell? ⟨(ad428.add ((x6_1).toNat * 4)).block, (ad428.add ((x6_1).toNat * 4)).off + 3, none⟩ = some (.bool ((rd_T26 l1 x6_1).f3)) ∧ w131.cell? (ad428.add ((x7_2).toNat * 4)) = some (.int .i64 ((rd_T26 l1 x7_2).f0)) ∧ w131.cell? ⟨(ad428.add ((x7_2).toNat * 4)).block, (ad428.add ((x7_2).toNat * 4)).off + 1, none⟩ = some (.int .i64 ((rd_T26 l1 x7_2).f1)) ∧ w131.cell? ⟨(ad428.add ((x7_2).toNat * 4)).block, (ad428.add ((x7_2).toNat * 4)).off + 2, none⟩ = some (.string ((rd_T26 l1 x7_2).f2)) ∧ w131.cell? ⟨(ad428.add ((x7_2).toNat * 4)).block, (ad428.add ((x7_2).toNat * 4)).off + 3, none⟩ = some (.bool ((rd_T26 l1 x7_2).f3)) := hS_
                                                refine norm_ (a' := ?_) ?_ ?_
                                                rotate_left
                                                · simp only [putAll, Act.put, List.setIfInBounds_toArray, List.set_cons_zero, List.set_cons_succ]
                                                  rfl
                                                refine one_ (i := 17) (N := none) #[true, true, true, true, true, true, true, true, true, true, true, true, true, true, true, true, true, true, false] rfl rfl (one_of HT_.out (by kernel_rfl)) (by decide) (fun K hK => ?_)
                                                have hs132 : w131.cell? ⟨gb451, 0, none⟩ = some (.int .i64 0) := (blk_cell BK451.out 0).trans rfl
                                                have hfs132 := blk_frozen BK451.out 0
                                                have hns132_0 := NB442_451.out
                                                have hms132_0 := NB451_442.out
                                                have hs133 : w131.cell? ⟨gb451, 1, none⟩ = some (.int .i64 0) := (blk_cell BK451.out 1).trans rfl
                                                have hfs133 := blk_frozen BK451.out 1
                                                have hns133_0 := NB442_451.out
                                                have hms133_0 := NB451_442.out
                                                have hs134 : w131.cell? ⟨gb451, 2, none⟩ = some (.string (⟨#[]⟩ : ByteArray)) := (blk_cell BK451.out 2).trans rfl
                                                have hfs134 := blk_frozen BK451.out 2
                                                have hns134_0 := NB442_451.out
                                                have hms134_0 := NB451_442.out
                                                have hs135 : w131.cell? ⟨gb451, 3, none⟩ = some (.bool false) := (blk_cell BK451.out 3).trans rfl
                                                have hfs135 := blk_frozen BK451.out 3
                                                have hns135_0 := NB442_451.out
                                                have hms135_0 := NB451_442.out
                                                refine skip_ (w1 := ?_) (by rfl) rfl ?_ ?_
                                                rotate_left
                                                · go_simp
                                                  rfl
                                                refine hK.out _ _ ⟨((cell_far (p := ⟨gb451, _, none⟩) (by first | exact far1 hw443_0 GW451.out | exact far2 hw443_0 GW451.out | exact far3 hw443_0 GW451.out | exact far4 hw443_0 GW451.out) _).trans (((cell_far (p := ⟨gb451, _, none⟩) (by first | exact far1 hw443_0 GW451.out | exact far2 hw443_0 GW451.out | exact far3 hw443_0 GW451.out | exact far4 hw443_0 GW451.out) _).trans (((cell_far (p := ⟨gb451, _, none⟩) (by first | exact far1 hw443_0 GW451.out | exact far2 hw443_0 GW451.out | exact far3 hw443_0 GW451.out | exact far4 hw443_0 GW451.out) _).trans (((cell_far (p := ⟨gb451, _, none⟩) (by first | exact far1 hw443_0 GW451.out | exact far2 hw443_0 GW451.out | exact far3 hw443_0 GW451.out | exact far4 hw443_0 GW451.out) _).trans (hHeld.1)))))))), ((cell_far (p := ⟨gb451, _, none⟩) (by first | exact far1 hw444_0 GW451.out | exact far2 hw444_0 GW451.out | exact far3 hw444_0 GW451.out | exact far4 hw444_0 GW451.out) _).trans (((cell_far (p := ⟨gb451, _, none⟩) (by first | exact far1 hw444_0 GW451.out | exact far2 hw444_0 GW451.out | exact far3 hw444_0 GW451.out | exact far4 hw444_0 GW451.out) _).trans (((cell_far (p := ⟨gb451, _, none⟩) (by first | exact far1 hw444_0 GW451.out | exact far2 hw444_0 GW451.out | exact far3 hw444_0 GW451.out | exact far4 hw444_0 GW451.out) _).trans (((cell_far (p := ⟨gb451, _, none⟩) (by first | exact far1 hw444_0 GW451.out | exact far2 hw444_0 GW451.out | exact far3 hw444_0 GW451.out | exact far4 hw444_0 GW451.out) _).trans (hHeld.2.1)))))))), ((cell_far (p := ⟨gb451, _, none⟩) (by first | exact far1 hw444_1 GW451.out | exact far2 hw444_1 GW451.out | exact far3 hw444_1 GW451.out | exact far4 hw444_1 GW451.out) _).trans (((cell_far (p := ⟨gb451, _, none⟩) (by first | exact far1 hw444_1 GW451.out | exact far2 hw444_1 GW451.out | exact far3 hw444_1 GW451.out | exact far4 hw444_1 GW451.out) _).trans (((cell_far (p := ⟨gb451, _, none⟩) (by first | exact far1 hw444_1 GW451.out | exact far2 hw444_1 GW451.out | exact far3 hw444_1 GW451.out | exact far4 hw444_1 GW451.out) _).trans (((cell_far (p := ⟨gb451, _, none⟩) (by first | exact far1 hw444_1 GW451.out | exact far2 hw444_1 GW451.out | exact far3 hw444_1 GW451.out | exact far4 hw444_1 GW451.out) _).trans (hHeld.2.2.1)))))))), ((cell_far (p := ⟨gb451, _, none⟩) (by first | exact far1 hw444_2 GW451.out | exact far2 hw444_2 GW451.out | exact far3 hw444_2 GW451.out | exact far4 hw444_2 GW451.out) _).trans (((cell_far (p := ⟨gb451, _, none⟩) (by first | exact far1 hw444_2 GW451.out | exact far2 hw444_2 GW451.out | exact far3 hw444_2 GW451.out | exact far4 hw444_2 GW451.out) _).trans (((cell_far (p := ⟨gb451, _, none⟩) (by first | exact far1 hw444_2 GW451.out | exact far2 hw444_2 GW451.out | exact far3 hw444_2 GW451.out | exact far4 hw444_2 GW451.out) _).trans (((cell_far (p := ⟨gb451, _, none⟩) (by first | exact far1 hw444_2 GW451.out | exact far2 hw444_2 GW451.out | exact far3 hw444_2 GW451.out | exact far4 hw444_2 GW451.out) _).trans (hHeld.2.2.2.1)))))))), ((cell_far (p := ⟨gb451, _, none⟩) (by first | exact far1 hw444_3 GW451.out | exact far2 hw444_3 GW451.out | exact far3 hw444_3 GW451.out | exact far4 hw444_3 GW451.out) _).trans (((cell_far (p := ⟨gb451, _, none⟩) (by first | exact far1 hw444_3 GW451.out | exact far2 hw444_3 GW451.out | exact far3 hw444_3 GW451.out | exact far4 hw444_3 GW451.out) _).trans (((cell_far (p := ⟨gb451, _, none⟩) (by first | exact far1 hw444_3 GW451.out | exact far2 hw444_3 GW451.out | exact far3 hw444_3 GW451.out | exact far4 hw444_3 GW451.out) _).trans (((cell_far (p := ⟨gb451, _, none⟩) (by first | exact far1 hw444_3 GW451.out | exact far2 hw444_3 GW451.out | exact far3 hw444_3 GW451.out | exact far4 hw444_3 GW451.out) _).trans (hHeld.2.2.2.2.1)))))))), ((cell_far (p := ⟨gb451, _, none⟩) (by first | exact far1 hw445_0 GW451.out | exact far2 hw445_0 GW451.out | exact far3 hw445_0 GW451.out | exact far4 hw445_0 GW451.out) _).trans (((cell_far (p := ⟨gb451, _, none⟩) (by first | exact far1 hw445_0 GW451.out | exact far2 hw445_0 GW451.out | exact far3 hw445_0 GW451.out | exact far4 hw445_0 GW451.out) _).trans (((cell_far (p := ⟨gb451, _, none⟩) (by first | exact far1 hw445_0 GW451.out | exact far2 hw445_0 GW451.out | exact far3 hw445_0 GW451.out | exact far4 hw445_0 GW451.out) _).trans (((cell_far (p := ⟨gb451, _, none⟩) (by first | exact far1 hw445_0 GW451.out | exact far2 hw445_0 GW451.out | exact far3 hw445_0 GW451.out | exact far4 hw445_0 GW451.out) _).trans (hHeld.2.2.2.2.2.1)))))))), ((cell_far (p := ⟨gb451, _, none⟩) (by first | exact far1 hw445_1 GW451.out | exact far2 hw445_1 GW451.out | exact far3 hw445_1 GW451.out | exact far4 hw445_1 GW451.out) _).trans (((cell_far (p := ⟨gb451, _, none⟩) (by first | exact far1 hw445_1 GW451.out | exact far2 hw445_1 GW451.out | exact far3 hw445_1 GW451.out | exact far4 hw445_1 GW451.out) _).trans (((cell_far (p := ⟨gb451, _, none⟩) (by first | exact far1 hw445_1 GW451.out | exact far2 hw445_1 GW451.out | exact far3 hw445_1 GW451.out | exact far4 hw445_1 GW451.out) _).trans (((cell_far (p := ⟨gb451, _, none⟩) (by first | exact far1 hw445_1 GW451.out | exact far2 hw445_1 GW451.out | exact far3 hw445_1 GW451.out | exact far4 hw445_1 GW451.out) _).trans (hHeld.2.2.2.2.2.2.1)))))))), ((cell_far (p := ⟨gb451, _, none⟩) (by first | exact far1 hw445_2 GW451.out | exact far2 hw445_2 GW451.out | exact far3 hw445_2 GW451.out | exact far4 hw445_2 GW451.out) _).trans (((cell_far (p := ⟨gb451, _, none⟩) (by first | exact far1 hw445_2 GW451.out | exact far2 hw445_2 GW451.out | exact far3 hw445_2 GW451.out | exact far4 hw445_2 GW451.out) _).trans (((cell_far (p := ⟨gb451, _, none⟩) (by first | exact far1 hw445_2 GW451.out | exact far2 hw445_2 GW451.out | exact far3 hw445_2 GW451.out | exact far4 hw445_2 GW451.out) _).trans (((cell_far (p := ⟨gb451, _, none⟩) (by first | exact far1 hw445_2 GW451.out | exact far2 hw445_2 GW451.out | exact far3 hw445_2 GW451.out | exact far4 hw445_2 GW451.out) _).trans (hHeld.2.2.2.2.2.2.2.1)))))))), ((cell_far (p := ⟨gb451, _, none⟩) (by first | exact far1 hw445_3 GW451.out | exact far2 hw445_3 GW451.out | exact far3 hw445_3 GW451.out | exact far4 hw445_3 GW451.out) _).trans (((cell_far (p := ⟨gb451, _, none⟩) (by first | exact far1 hw445_3 GW451.out | exact far2 hw445_3 GW451.out | exact far3 hw445_3 GW451.out | exact far4 hw445_3 GW451.out) _).trans (((cell_far (p := ⟨gb451, _, none⟩) (by first | exact far1 hw445_3 GW451.out | exact far2 hw445_3 GW451.out | exact far3 hw445_3 GW451.out | exact far4 hw445_3 GW451.out) _).trans (((cell_far (p := ⟨gb451, _, none⟩) (by first | exact far1 hw445_3 GW451.out | exact far2 hw445_3 GW451.out | exact far3 hw445_3 GW451.out | exact far4 hw445_3 GW451.out) _).trans (hHeld.2.2.2.2.2.2.2.2))))))))⟩ (fun hHeld => ?_)
                                                clear hK K
                                                refine pure_ (i := 18) (N := some 14) (v := ?_) (a' := ?_) #[true, true, true, true, true, true, true, true, true, true, true, true, true, true, true, true, true, true, true] rfl rfl (any_of HT_.out (by kernel_rfl)) (fun _ _ _ h => h) (Or.inl ⟨by rfl, ?_⟩) ?_ ?_
                                                rotate_left
                                                · intro w'
                                                  go_simp
                                                  with_reducible rfl
                                                rotate_left
                                                · simp only [Act.put, List.setIfInBounds_toArray, List.set_cons_zero, List.set_cons_succ, i64_w, i32_w, IntKind.wrap_u8, IntKind.wrap_u16, IntKind.wrap_u32]
                                                  rfl
                                                refine done_ (done_of HT_.out (by kernel_rfl)) ?_
                                                try go_wp2
                                                have n0_ : Aside0 (((((w131.setCell ⟨gb451, 0, none⟩ (.int .i64 t446)).setCell ⟨gb451, 1, none⟩ (.int .i64 t447)).setCell ⟨gb451, 2, none⟩ (.string t448)).setCell ⟨gb451, 3, none⟩ (.bool t449)).heap[gb442]? = some (.cells #[.int .i64 t437, .int .i64 t438, .string t439, .bool t440] 26 (0, 0))) := ⟨by (with_reducible repeat (first | refine blk_drewN ?_ _ | refine blk_drew ?_ | refine blk_alloc ?_ _)); refine blk_far ?_ NB442_451.out _; (with_reducible repeat (first | refine blk_drewN ?_ _ | refine blk_drew ?_ | refine blk_alloc ?_ _)); refine blk_far ?_ NB442_451.out _; (with_reducible repeat (first | refine blk_drewN ?_ _ | refine blk_drew ?_ | refine blk_alloc ?_ _)); refine blk_far ?_ NB442_451.out _; (with_reducible repeat (first | refine blk_drewN ?_ _ | refine blk_drew ?_ | refine blk_alloc ?_ _)); refine blk_far ?_ NB442_451.out _; (with_reducible repeat (first | refine blk_drewN ?_ _ | refine blk_drew ?_ | refine blk_alloc ?_ _)); exact BK442.out⟩
                                                have n1_ : Aside0 (((((w131.setCell ⟨gb451, 0, none⟩ (.int .i64 t446)).setCell ⟨gb451, 1, none⟩ (.int .i64 t447)).setCell ⟨gb451, 2, none⟩ (.string t448)).setCell ⟨gb451, 3, none⟩ (.bool t449)).heap[gb451]? = some (.cells #[.int .i64 t446, .int .i64 t447, .string t448, .bool t449] 26 (0, 0))) := ⟨by (with_reducible repeat (first | refine blk_drewN ?_ _ | refine blk_drew ?_ | refine blk_alloc ?_ _)); refine blk_put (cs := #[.int .i64 t446, .int .i64 t447, .string t448, .bool false]) ?_ 3 _ rfl; (with_reducible repeat (first | refine blk_drewN ?_ _ | refine blk_drew ?_ | refine blk_alloc ?_ _)); refine blk_put (cs := #[.int .i64 t446, .int .i64 t447, .string (⟨#[]⟩ : ByteArray), .bool false]) ?_ 2 _ rfl; (with_reducible repeat (first | refine blk_drewN ?_ _ | refine blk_drew ?_ | refine blk_alloc ?_ _)); refine blk_put (cs := #[.int .i64 t446, .int .i64 0, .string (⟨#[]⟩ : ByteArray), .bool false]) ?_ 1 _ rfl; (with_reducible repeat (first | refine blk_drewN ?_ _ | refine blk_drew ?_ | refine blk_alloc ?_ _)); refine blk_put (cs := #[.int .i64 0, .int .i64 0, .string (⟨#[]⟩ : ByteArray), .bool false]) ?_ 0 _ rfl; (with_reducible repeat (first | refine blk_drewN ?_ _ | refine blk_drew ?_ | refine blk_alloc ?_ _)); exact BK451.out⟩
                                                have n2_ : Aside0 (Below w.heap.size w ((((w131.setCell ⟨gb451, 0, none⟩ (.int .i64 t446)).setCell ⟨gb451, 1, none⟩ (.int .i64 t447)).setCell ⟨gb451, 2, none⟩ (.string t448)).setCell ⟨gb451, 3, none⟩ (.bool t449))) := ⟨by repeat (first | (with_reducible first | exact HB.out | apply below_alloc | apply pw_below_drewN | apply below_drew1 | refine below_set ?_ GE442.out | refine below_set ?_ GE451.out) | exact HB.out)⟩
                                                (try clear BK442)
                                                (try clear BK451)
                                                (try clear HB)
                                                generalize ((((w131.setCell ⟨gb451, 0, none⟩ (.int .i64 t446)).setCell ⟨gb451, 1, none⟩ (.int .i64 t447)).setCell ⟨gb451, 2, none⟩ (.string t448)).setCell ⟨gb451, 3, none⟩ (.bool t449)) = w136 at n0_ n1_ n2_ ⊢
                                                have BK442 := n0_
                                                have BK451 := n1_
                                                have HB := n2_
                                                clear n0_ n1_ n2_
                                                have n0_ := Aside0.mk (blk_drew BK442.out)
                                                have n1_ := Aside0.mk (blk_drew BK451.out)
                                                have n2_ := Aside0.mk (below_drew1 HB.out)
                                                clear BK442
                                                clear BK451
                                                clear HB
                                                have BK442 := n0_
                                                have BK451 := n1_
                                                have HB := n2_
                                                clear n0_ n1_ n2_
                                                have p452 : 0 ≤ (x10_3 : Int) := of_decide_eq_true (by first | (with_reducible assumption) | assumption)
                                                have q452 : x10_3 < (l0.length : Int) := of_decide_eq_true (by first | (with_reducible assumption) | assumption)
                                                obtain ⟨ad452, e452, hx452_0⟩ := Kd.at_int HR0.out x10_3 p452 q452
                                                have hw452_0 := hx452_0
                                                obtain rfl : ad434 = ad452 := (by injection e452)
                                                replace hx452_0 := (HB.out.cell (World.block_lt_of_cell? w _ hx452_0)).trans hx452_0
                                                replace p452 := eq_true p452
                                                replace q452 := eq_true q452
                                                have p453 : 0 ≤ (x6_1 : Int) := of_decide_eq_true (by first | (with_reducible assumption) | assumption)
                                                have q453 : x6_1 < (l1.length : Int) := of_decide_eq_true (by first | (with_reducible assumption) | assumption)
                                                obtain ⟨ad453, e453, hx453_0, hx453_1, hx453_2, hx453_3⟩ := at_T26 HR1.out x6_1 p453 q453
                                                have hw453_3 := hx453_3
                                                have hw453_2 := hx453_2
                                                have hw453_1 := hx453_1
                                                have hw453_0 := hx453_0
                                                obtain rfl : ad428 = ad453 := (by injection e453)
                                                replace hx453_0 := (HB.out.cell (World.block_lt_of_cell? w _ hx453_0)).trans hx453_0
                                                replace hx453_1 := (HB.out.cell (World.block_lt_of_cell? w _ hx453_1)).trans hx453_1
                                                replace hx453_2 := (HB.out.cell (World.block_lt_of_cell? w _ hx453_2)).trans hx453_2
                                                replace hx453_3 := (HB.out.cell (World.block_lt_of_cell? w _ hx453_3)).trans hx453_3
                                                replace p453 := eq_true p453
                                                replace q453 := eq_true q453
                                                refine start_ (n := 15) (S := fun w' => w'.cell? (ad434.add (x10_3).toNat) = some (.int .i64 (rd l0 x10_3)) ∧ w'.cell? (ad428.add ((x6_1).toNat * 4)) = some (.int .i64 ((rd_T26 l1 x6_1).f0)) ∧ w'.cell? ⟨(ad428.add ((x6_1).toNat * 4)).block, (ad428.add ((x6_1).toNat * 4)).off + 1, none⟩ = some (.int .i64 ((rd_T26 l1 x6_1).f1)) ∧ w'.cell? ⟨(ad428.add ((x6_1).toNat * 4)).block, (ad428.add ((x6_1).toNat * 4)).off + 2, none⟩ = some (.string ((rd_T26 l1 x6_1).f2)) ∧ w'.cell? ⟨(ad428.add ((x6_1).toNat * 4)).block, (ad428.add ((x6_1).toNat * 4)).off + 3, none⟩ = some (.bool ((rd_T26 l1 x6_1).f3))) (ds := []) #[false, false, false, false, false, false, false, false, false, false, false, false, false, false, false] (by kernel_rfl) rfl rfl ⟨((HB.out.cell (World.block_lt_of_cell? w _ hw452_0)).trans hw452_0), ((HB.out.cell (World.block_lt_of_cell? w _ hw453_0)).trans hw453_0), ((HB.out.cell (World.block_lt_of_cell? w _ hw453_1)).trans hw453_1), ((HB.out.cell (World.block_lt_of_cell? w _ hw453_2)).trans hw453_2), ((HB.out.cell (World.block_lt_of_cell? w _ hw453_3)).trans hw453_3)⟩ (fun hHeld => ?_); refine with_tabW refrainlaw1_ValueOps.tab19 refrainlaw1_ValueOps.bits19 (fun HT_ HW_ => ?_)
                                                generalize w136.drew = w137 at BK442 BK451 HB hx452_0 hx453_0 hx453_1 hx453_2 hx453_3 hHeld ⊢
                                                refine pure_ (i := 0) (N := some 94) (v := ?_) (a' := ?_) #[true, false, false, false, false, false, false, false, false, false, false, false, false, false, false] rfl rfl (any_of HT_.out (by kernel_rfl)) (fun _ _ _ h => h) (Or.inl ⟨by rfl, ?_⟩) ?_ ?_
                                                rotate_left
                                                · intro w'
                                                  go_simp
                                                  with_reducible rfl
                                                rotate_left
                                                · simp only [Act.put, List.setIfInBounds_toArray, List.set_cons_zero, List.set_cons_succ, i64_w, i32_w, IntKind.wrap_u8, IntKind.wrap_u16, IntKind.wrap_u32]
                                                  rfl
                                                refine pure_ (i := 1) (N := some 95) (v := ?_) (a' := ?_) #[true, true, false, false, false, false, false, false, false, false, false, false, false, false, false] rfl rfl (any_of HT_.out (by kernel_rfl)) (fun _ _ _ h => h) (Or.inl ⟨by rfl, ?_⟩) ?_ ?_
                                                rotate_left
                                                · intro w'
                                                  go_simp
                                                  with_reducible rfl
                                                rotate_left
                                                · simp only [Act.put, List.setIfInBounds_toArray, List.set_cons_zero, List.set_cons_succ, i64_w, i32_w, IntKind.wrap_u8, IntKind.wrap_u16, IntKind.wrap_u32]
                                                  rfl
                                                refine pure_ (i := 2) (N := some 96) (v := ?_) (a' := ?_) #[true, true, true, false, false, false, false, false, false, false, false, false, false, false, false] rfl rfl (any_of HT_.out (by kernel_rfl)) (fun _ _ _ h => h) (Or.inl ⟨by rfl, ?_⟩) ?_ ?_
                                                rotate_left
                                                · intro w'
                                                  go_simp
                                                  with_reducible rfl
                                                rotate_left
                                                · simp only [Act.put, List.setIfInBounds_toArray, List.set_cons_zero, List.set_cons_succ, i64_w, i32_w, IntKind.wrap_u8, IntKind.wrap_u16, IntKind.wrap_u32]
                                                  rfl
                                                refine pure_ (i := 4) (N := some 98) (v := ?_) (a' := ?_) #[true, true, true, false, true, false, false, false, false, false, false, false, false, false, false] rfl rfl (any_of HT_.out (by kernel_rfl)) (fun _ _ _ h => h) (Or.inl ⟨by rfl, ?_⟩) ?_ ?_
                                                rotate_left
                                                · intro w'
                                                  go_simp
                                                  with_reducible rfl
                                                rotate_left
                                                · simp only [Act.put, List.setIfInBounds_toArray, List.set_cons_zero, List.set_cons_succ, i64_w, i32_w, IntKind.wrap_u8, IntKind.wrap_u16, IntKind.wrap_u32]
                                                  rfl
                                                refine pure_ (i := 5) (N := some 99) (v := ?_) (a' := ?_) #[true, true, true, false, true, true, false, false, false, false, false, false, false, false, false] rfl rfl (any_of HT_.out (by kernel_rfl)) (fun _ _ _ h => h) (Or.inl ⟨by rfl, ?_⟩) ?_ ?_
                                                rotate_left
                                                · intro w'
                                                  go_simp
                                                  with_reducible rfl
                                                rotate_left
                                                · simp only [Act.put, List.setIfInBounds_toArray, List.set_cons_zero, List.set_cons_succ, i64_w, i32_w, IntKind.wrap_u8, IntKind.wrap_u16, IntKind.wrap_u32]
                                                  rfl
                                                refine pure_ (i := 6) (N := some 100) (v := ?_) (a' := ?_) #[true, true, true, false, true, true, true, false, false, false, false, false, false, false, false] rfl rfl (any_of HT_.out (by kernel_rfl)) (fun _ _ _ h => h) (Or.inl ⟨by rfl, ?_⟩) ?_ ?_
                                                rotate_left
                                                · intro w'
                                                  go_simp
                                                  with_reducible rfl
                                                rotate_left
                                                · simp only [Act.put, List.setIfInBounds_toArray, List.set_cons_zero, List.set_cons_succ, i64_w, i32_w, IntKind.wrap_u8, IntKind.wrap_u16, IntKind.wrap_u32]
                                                  rfl
                                                refine take_ (i := 3) (N := some 97) (v := ?_) (a' := ?_) #[true, true, true, true, true, true, true, false, false, false, false, false, false, false, false] rfl rfl (take_ofW HT_.out HW_.out (by kernel_rfl)) (fun _ _ _ h => h) (Or.inl ⟨by rfl, ?_⟩) hHeld ?_ ?_
                                                rotate_left
                                                · rintro w' ⟨s0, s1, s2, s3, s4⟩
                                                  go_simp
                                                  with_reducible rfl
                                                rotate_left
                                                · simp only [Act.put, List.setIfInBounds_toArray, List.set_cons_zero, List.set_cons_succ, i64_w, i32_w, IntKind.wrap_u8, IntKind.wrap_u16, IntKind.wrap_u32]
                                                  rfl
                                                refine take_ (i := 7) (N := some 101) (v := ?_) (a' := ?_) #[true, true, true, true, true, true, true, true, false, false, false, false, false, false, false] rfl rfl (take_ofW HT_.out HW_.out (by kernel_rfl)) (fun _ _ _ h => h) (Or.inl ⟨by rfl, ?_⟩) hHeld ?_ ?_
                                                rotate_left
                                                · rintro w' ⟨s0, s1, s2, s3, s4⟩
                                                  go_simp
                                                  with_reducible rfl
                                                rotate_left
                                                · simp only [Act.put, List.setIfInBounds_toArray, List.set_cons_zero, List.set_cons_succ, i64_w, i32_w, IntKind.wrap_u8, IntKind.wrap_u16, IntKind.wrap_u32]
                                                  rfl
                                                refine join_ (σ := Nat) 2 #[true, true, true, true, true, true, true, true, true, true, true, true, true, false, false] (fun s_ => [(102, .tuple #[.agg #[.int .i64 t454, .int .i64 t455, .string t456, .bool t457], .int .i64 t458]), (15, .pointer (some ⟨s_, 0, none⟩)), (93, .tuple #[.agg #[.int .i64 t454, .int .i64 t455, .string t456, .bool t457], .int .i64 t458]), (103, .agg #[.int .i64 t454, .int .i64 t455, .string t456, .bool t457]), (104, .int .i64 t458)]) (fun s_ w' => (w'.cell? (ad434.add (x10_3).toNat) = some (.int .i64 (rd l0 x10_3)) ∧ w'.cell? (ad428.add ((x6_1).toNat * 4)) = some (.int .i64 ((rd_T26 l1 x6_1).f0)) ∧ w'.cell? ⟨(ad428.add ((x6_1).toNat * 4)).block, (ad428.add ((x6_1).toNat * 4)).off + 1, none⟩ = some (.int .i64 ((rd_T26 l1 x6_1).f1)) ∧ w'.cell? ⟨(ad428.add ((x6_1).toNat * 4)).block, (ad428.add ((x6_1).toNat * 4)).off + 2, none⟩ = some (.string ((rd_T26 l1 x6_1).f2)) ∧ w'.cell? ⟨(ad428.add ((x6_1).toNat * 4)).block, (ad428.add ((x6_1).toNat * 4)).off + 3, none⟩ = some (.bool ((rd_T26 l1 x6_1).f3))) ∧ (w'.heap[gb442]? = some (.cells #[.int .i64 t437, .int .i64 t438, .string t439, .bool t440] 26 (0, 0))) ∧ (w'.heap[gb451]? = some (.cells #[.int .i64 t446, .int .i64 t447, .string t448, .bool t449] 26 (0, 0))) ∧ (w'.heap[s_]? = some (.cells #[.int .i64 0, .int .i64 0, .string (⟨#[]⟩ : ByteArray), .bool false] 26 (0, 0))) ∧ (w.heap.size ≤ s_) ∧ (w.heap.size ≤ s_) ∧ (gb442 ≠ s_) ∧ (s_ ≠ gb442) ∧ (gb451 ≠ s_) ∧ (s_ ≠ gb451) ∧ (Below w.heap.size w w')) ?_ ?_
                                                rotate_left
                                                · intro hCont
                                                  refine two_ (i := 8) (j := 12) (Ni := some 102) (Nj := some 15) #[true, true, true, true, true, true, true, true, true, false, false, false, false, false, false] #[true, true, true, true, true, true, true, true, false, false, false, false, true, false, false] rfl rfl rfl rfl (two_of HT_.out (by kernel_rfl)) (by decide) (by decide) (fun K hK => ?_) (fun K hK => ?_)
                                                  · skip
                                                    refine goes_ Tryd.func22 (by kernel_rfl) rfl #[.int .i64 (rd l0 x10_3), .agg #[.int .i64 ((rd_T26 l1 x6_1).f0), .int .i64 ((rd_T26 l1 x6_1).f1), .string ((rd_T26 l1 x6_1).f2), .bool ((rd_T26 l1 x6_1).f3)]] (by rfl) rfl rfl (by (try simp only [List.map_toArray, List.map_cons, List.map_nil]); first | done | rfl | (simp only [List.length_drop, List.length_take]; rfl)) ?_
                                                    with_reducible refine (value_Unary.calls k3 (rd l0 x10_3) ((rd_T26 l1 x6_1).f0) ((rd_T26 l1 x6_1).f1) ((rd_T26 l1 x6_1).f2) ((rd_T26 l1 x6_1).f3) t454 t455 t456 t457 t458 _ ?side1 A26.out).mono ?_
                                                    (case side1 => first | (with_reducible exact HL_LG0) | exact ⟨LG0.below HL_LG0.out (by repeat (first | (with_reducible first | exact HB.out | apply below_alloc | apply pw_below_drewN | apply below_drew1 | refine below_set ?_ GE442.out | refine below_set ?_ GE451.out) | exact HB.out))⟩)
                                                    rintro e w138 ⟨rfl, hb⟩
                                                    refine ⟨_, rfl, ?_⟩
                                                    have n0_ := Aside0.mk (blk_below (g := gb442) (o := .cells #[.int .i64 t437, .int .i64 t438, .string t439, .bool t440] 26 (0, 0)) (by (with_reducible repeat (first | refine blk_drewN ?_ _ | refine blk_drew ?_ | refine blk_alloc ?_ _)); exact BK442.out) hb)
                                                    have n1_ := Aside0.mk (blk_below (g := gb451) (o := .cells #[.int .i64 t446, .int .i64 t447, .string t448, .bool t449] 26 (0, 0)) (by (with_reducible repeat (first | refine blk_drewN ?_ _ | refine blk_drew ?_ | refine blk_alloc ?_ _)); exact BK451.out) hb)
                                                    have n2_ := Aside0.mk (below_step (by repeat (first | (with_reducible first | exact HB.out | apply below_alloc | apply pw_below_drewN | apply below_drew1 | refine below_set ?_ GE442.out | refine below_set ?_ GE451.out) | exact HB.out)) hb)
                                                    clear BK442
                                                    clear BK451
                                                    clear HB
                                                    have BK442 := n0_
                                                    have BK451 := n1_
                                                    have HB := n2_
                                                    clear n0_ n1_ n2_
                                                    (try clear hb)
                                                    (try clear hb2)
                                                    (try clear hk)
                                                    (try clear hi)
                                                    refine hK.out _ _ ⟨((HB.out.cell (World.block_lt_of_cell? w _ hw452_0)).trans hw452_0), ((HB.out.cell (World.block_lt_of_cell? w _ hw453_0)).trans hw453_0), ((HB.out.cell (World.block_lt_of_cell? w _ hw453_1)).trans hw453_1), ((HB.out.cell (World.block_lt_of_cell? w _ hw453_2)).trans hw453_2), ((HB.out.cell (World.block_lt_of_cell? w _ hw453_3)).trans hw453_3)⟩ (fun hHeld => ?_)
                                                    clear hK K
                                                    refine norm_ (a' := ?_) ?_ ?_
                                                    rotate_left
                                                    · show Act.put _ (some 102) _ = _
                                                      simp only [Act.put, List.setIfInBounds_toArray, List.set_cons_zero, List.set_cons_succ, i64_w, i32_w, IntKind.wrap_u8, IntKind.wrap_u16, IntKind.wrap_u32]
                                                      rfl
                                                    refine pure_ (i := 9) (N := some 93) (v := ?_) (a' := ?_) #[true, true, true, true, true, true, true, true, true, true, false, false, false, false, false] rfl rfl (any_of HT_.out (by kernel_rfl)) (fun _ _ _ h => h) (Or.inl ⟨by rfl, ?_⟩) ?_ ?_
                                                    rotate_left
                                                    · intro w'
                                                      go_simp
                                                      with_reducible rfl
                                                    rotate_left
                                                    · simp only [Act.put, List.setIfInBounds_toArray, List.set_cons_zero, List.set_cons_succ, i64_w, i32_w, IntKind.wrap_u8, IntKind.wrap_u16, IntKind.wrap_u32]
                                                      rfl
                                                    refine pure_ (i := 10) (N := some 103) (v := ?_) (a' := ?_) #[true, true, true, true, true, true, true, true, true, true, true, false, false, false, false] rfl rfl (any_of HT_.out (by kernel_rfl)) (fun _ _ _ h => h) (Or.inl ⟨by rfl, ?_⟩) ?_ ?_
                                                    rotate_left
                                                    · intro w'
                                                      go_simp
                                                      with_reducible rfl
                                                    rotate_left
                                                    · simp only [Act.put, List.setIfInBounds_toArray, List.set_cons_zero, List.set_cons_succ, i64_w, i32_w, IntKind.wrap_u8, IntKind.wrap_u16, IntKind.wrap_u32]
                                                      rfl
                                                    refine pure_ (i := 11) (N := some 104) (v := ?_) (a' := ?_) #[true, true, true, true, true, true, true, true, true, true, true, true, false, false, false] rfl rfl (any_of HT_.out (by kernel_rfl)) (fun _ _ _ h => h) (Or.inl ⟨by rfl, ?_⟩) ?_ ?_
                                                    rotate_left
                                                    · intro w'
                                                      go_simp
                                                      with_reducible rfl
                                                    rotate_left
                                                    · simp only [Act.put, List.setIfInBounds_toArray, List.set_cons_zero, List.set_cons_succ, i64_w, i32_w, IntKind.wrap_u8, IntKind.wrap_u16, IntKind.wrap_u32]
                                                      rfl
                                                    refine one_ (i := 12) (N := some 15) #[true, true, true, true, true, true, true, true, true, true, true, true, true, false, false] rfl rfl (one_of HT_.out (by kernel_rfl)) (by decide) (fun K hK => ?_)
                                                    refine box_step ?hg (N := 15) ?hd (cs := #[.int .i64 0, .int .i64 0, .string (⟨#[]⟩ : ByteArray), .bool false]) (t := 26) ?hr ?_; (case hd => rfl); (case hg => rfl); (case hr => first | (go_simp; done) | (go_simp; rfl))
                                                    intro gb459 hg w139 hbox hb
                                                    have n0_ := Aside0.mk (blk_below (g := gb442) (o := .cells #[.int .i64 t437, .int .i64 t438, .string t439, .bool t440] 26 (0, 0)) (by (with_reducible repeat (first | refine blk_drewN ?_ _ | refine blk_drew ?_ | refine blk_alloc ?_ _)); exact BK442.out) hb)
                                                    have n1_ := Aside0.mk (blk_below (g := gb451) (o := .cells #[.int .i64 t446, .int .i64 t447, .string t448, .bool t449] 26 (0, 0)) (by (with_reducible repeat (first | refine blk_drewN ?_ _ | refine blk_drew ?_ | refine blk_alloc ?_ _)); exact BK451.out) hb)
                                                    have n2_ := Aside0.mk (below_step (by repeat (first | (with_reducible first | exact HB.out | apply below_alloc | apply pw_below_drewN | apply below_drew1 | refine below_set ?_ GE442.out | refine below_set ?_ GE451.out) | exact HB.out)) hb)
                                                    have n3_ := Aside0.mk (hbox)
                                                    have n4_ := Aside0.mk ((by rw [hg]; exact (below_size (by repeat (first | (with_reducible first | exact HB.out | apply below_alloc | apply pw_below_drewN | apply below_drew1 | refine below_set ?_ GE442.out | refine below_set ?_ GE451.out) | exact HB.out))) : w.heap.size ≤ gb459))
                                                    have n5_ := Aside0.mk ((by rw [hg]; exact (below_size (by repeat (first | (with_reducible first | exact HB.out | apply below_alloc | apply pw_below_drewN | apply below_drew1 | refine below_set ?_ GE442.out | refine below_set ?_ GE451.out) | exact HB.out))) : w.heap.size ≤ gb459))
                                                    have n6_ := Aside0.mk ((by rw [hg]; exact Nat.ne_of_lt (blk_lt (g := gb442) (o := .cells #[.int .i64 t437, .int .i64 t438, .string t439, .bool t440] 26 (0, 0)) (by (with_reducible repeat (first | refine blk_drewN ?_ _ | refine blk_drew ?_ | refine blk_alloc ?_ _)); exact BK442.out)) : gb442 ≠ gb459))
                                                    have n7_ := Aside0.mk ((by rw [hg]; exact Nat.ne_of_gt (blk_lt (g := gb442) (o := .cells #[.int .i64 t437, .int .i64 t438, .string t439, .bool t440] 26 (0, 0)) (by (with_reducible repeat (first | refine blk_drewN ?_ _ | refine blk_drew ?_ | refine blk_alloc ?_ _)); exact BK442.out)) : gb459 ≠ gb442))
                                                    have n8_ := Aside0.mk ((by rw [hg]; exact Nat.ne_of_lt (blk_lt (g := gb451) (o := .cells #[.int .i64 t446, .int .i64 t447, .string t448, .bool t449] 26 (0, 0)) (by (with_reducible repeat (first | refine blk_drewN ?_ _ | refine blk_drew ?_ | refine blk_alloc ?_ _)); exact BK451.out)) : gb451 ≠ gb459))
                                                    have n9_ := Aside0.mk ((by rw [hg]; exact Nat.ne_of_gt (blk_lt (g := gb451) (o := .cells #[.int .i64 t446, .int .i64 t447, .string t448, .bool t449] 26 (0, 0)) (by (with_reducible repeat (first | refine blk_drewN ?_ _ | refine blk_drew ?_ | refine blk_alloc ?_ _)); exact BK451.out)) : gb459 ≠ gb451))
                                                    clear BK442
                                                    clear BK451
                                                    clear HB
                                                    have BK442 := n0_
                                                    have BK451 := n1_
                                                    have HB := n2_
                                                    have BK459 := n3_
                                                    have GW459 := n4_
                                                    have GE459 := n5_
                                                    have NB442_459 := n6_
                                                    have NB459_442 := n7_
                                                    have NB451_459 := n8_
                                                    have NB459_451 := n9_
                                                    clear n0_ n1_ n2_ n3_ n4_ n5_ n6_ n7_ n8_ n9_
                                                    clear hb hbox hg
                                                    refine hK.out _ _ ⟨((HB.out.cell (World.block_lt_of_cell? w _ hw452_0)).trans hw452_0), ((HB.out.cell (World.block_lt_of_cell? w _ hw453_0)).trans hw453_0), ((HB.out.cell (World.block_lt_of_cell? w _ hw453_1)).trans hw453_1), ((HB.out.cell (World.block_lt_of_cell? w _ hw453_2)).trans hw453_2), ((HB.out.cell (World.block_lt_of_cell? w _ hw453_3)).trans hw453_3)⟩ (fun hHeld => ?_)
                                                    clear hK K
                                                    refine norm_ (a' := ?_) ?_ ?_
                                                    rotate_left
                                                    · show Act.put _ (some 15) _ = _
                                                      simp only [Act.put, List.setIfInBounds_toArray, List.set_cons_zero, List.set_cons_succ, i64_w, i32_w, IntKind.wrap_u8, IntKind.wrap_u16, IntKind.wrap_u32]
                                                      rfl
                                                    exact norm_ (by simp only [putAll, Act.put, List.setIfInBounds_toArray, List.set_cons_zero, List.set_cons_succ]) (hCont (gb459) _ ⟨hHeld, (by (with_reducible repeat (first | refine blk_drewN ?_ _ | refine blk_drew ?_ | refine blk_alloc ?_ _)); exact BK442.out), (by (with_reducible repeat (first | refine blk_drewN ?_ _ | refine blk_drew ?_ | refine blk_alloc ?_ _)); exact BK451.out), (by (with_reducible repeat (first | refine blk_drewN ?_ _ | refine blk_drew ?_ | refine blk_alloc ?_ _)); exact BK459.out), GW459.out, GE459.out, NB442_459.out, NB459_442.out, NB451_459.out, NB459_451.out, (by repeat (first | (with_reducible first | exact HB.out | apply below_alloc | apply pw_below_drewN | apply below_drew1 | refine below_set ?_ GE442.out | refine below_set ?_ GE451.out | refine below_set ?_ GE459.out) | exact HB.out))⟩)
                                                  · skip
                                                    refine box_step ?hg (N := 15) ?hd (cs := #[.int .i64 0, .int .i64 0, .string (⟨#[]⟩ : ByteArray), .bool false]) (t := 26) ?hr ?_; (case hd => rfl); (case hg => rfl); (case hr => first | (go_simp; done) | (go_simp; rfl))
                                                    intro gb459 hg w138 hbox hb
                                                    have n0_ := Aside0.mk (blk_below (g := gb442) (o := .cells #[.int .i64 t437, .int .i64 t438, .string t439, .bool t440] 26 (0, 0)) (by (with_reducible repeat (first | refine blk_drewN ?_ _ | refine blk_drew ?_ | refine blk_alloc ?_ _)); exact BK442.out) hb)
                                                    have n1_ := Aside0.mk (blk_below (g := gb451) (o := .cells #[.int .i64 t446, .int .i64 t447, .string t448, .bool t449] 26 (0, 0)) (by (with_reducible repeat (first | refine blk_drewN ?_ _ | refine blk_drew ?_ | refine blk_alloc ?_ _)); exact BK451.out) hb)
                                                    have n2_ := Aside0.mk (below_step (by repeat (first | (with_reducible first | exact HB.out | apply below_alloc | apply pw_below_drewN | apply below_drew1 | refine below_set ?_ GE442.out | refine below_set ?_ GE451.out) | exact HB.out)) hb)
                                                    have n3_ := Aside0.mk (hbox)
                                                    have n4_ := Aside0.mk ((by rw [hg]; exact (below_size (by repeat (first | (with_reducible first | exact HB.out | apply below_alloc | apply pw_below_drewN | apply below_drew1 | refine below_set ?_ GE442.out | refine below_set ?_ GE451.out) | exact HB.out))) : w.heap.size ≤ gb459))
                                                    have n5_ := Aside0.mk ((by rw [hg]; exact (below_size (by repeat (first | (with_reducible first | exact HB.out | apply below_alloc | apply pw_below_drewN | apply below_drew1 | refine below_set ?_ GE442.out | refine below_set ?_ GE451.out) | exact HB.out))) : w.heap.size ≤ gb459))
                                                    have n6_ := Aside0.mk ((by rw [hg]; exact Nat.ne_of_lt (blk_lt (g := gb442) (o := .cells #[.int .i64 t437, .int .i64 t438, .string t439, .bool t440] 26 (0, 0)) (by (with_reducible repeat (first | refine blk_drewN ?_ _ | refine blk_drew ?_ | refine blk_alloc ?_ _)); exact BK442.out)) : gb442 ≠ gb459))
                                                    have n7_ := Aside0.mk ((by rw [hg]; exact Nat.ne_of_gt (blk_lt (g := gb442) (o := .cells #[.int .i64 t437, .int .i64 t438, .string t439, .bool t440] 26 (0, 0)) (by (with_reducible repeat (first | refine blk_drewN ?_ _ | refine blk_drew ?_ | refine blk_alloc ?_ _)); exact BK442.out)) : gb459 ≠ gb442))
                                                    have n8_ := Aside0.mk ((by rw [hg]; exact Nat.ne_of_lt (blk_lt (g := gb451) (o := .cells #[.int .i64 t446, .int .i64 t447, .string t448, .bool t449] 26 (0, 0)) (by (with_reducible repeat (first | refine blk_drewN ?_ _ | refine blk_drew ?_ | refine blk_alloc ?_ _)); exact BK451.out)) : gb451 ≠ gb459))
                                                    have n9_ := Aside0.mk ((by rw [hg]; exact Nat.ne_of_gt (blk_lt (g := gb451) (o := .cells #[.int .i64 t446, .int .i64 t447, .string t448, .bool t449] 26 (0, 0)) (by (with_reducible repeat (first | refine blk_drewN ?_ _ | refine blk_drew ?_ | refine blk_alloc ?_ _)); exact BK451.out)) : gb459 ≠ gb451))
                                                    clear BK442
                                                    clear BK451
                                                    clear HB
                                                    have BK442 := n0_
                                                    have BK451 := n1_
                                                    have HB := n2_
                                                    have BK459 := n3_
                                                    have GW459 := n4_
                                                    have GE459 := n5_
                                                    have NB442_459 := n6_
                                                    have NB459_442 := n7_
                                                    have NB451_459 := n8_
                                                    have NB459_451 := n9_
                                                    clear n0_ n1_ n2_ n3_ n4_ n5_ n6_ n7_ n8_ n9_
                                                    clear hb hbox hg
                                                    refine hK.out _ _ ⟨((HB.out.cell (World.block_lt_of_cell? w _ hw452_0)).trans hw452_0), ((HB.out.cell (World.block_lt_of_cell? w _ hw453_0)).trans hw453_0), ((HB.out.cell (World.block_lt_of_cell? w _ hw453_1)).trans hw453_1), ((HB.out.cell (World.block_lt_of_cell? w _ hw453_2)).trans hw453_2), ((HB.out.cell (World.block_lt_of_cell? w _ hw453_3)).trans hw453_3)⟩ (fun hHeld => ?_)
                                                    clear hK K
                                                    refine norm_ (a' := ?_) ?_ ?_
                                                    rotate_left
                                                    · show Act.put _ (some 15) _ = _
                                                      simp only [Act.put, List.setIfInBounds_toArray, List.set_cons_zero, List.set_cons_succ, i64_w, i32_w, IntKind.wrap_u8, IntKind.wrap_u16, IntKind.wrap_u32]
                                                      rfl
                                                    refine one_ (i := 8) (N := some 102) #[true, true, true, true, true, true, true, true, true, false, false, false, true, false, false] rfl rfl (one_of HT_.out (by kernel_rfl)) (by decide) (fun K hK => ?_)
                                                    refine goes_ Tryd.func22 (by kernel_rfl) rfl #[.int .i64 (rd l0 x10_3), .agg #[.int .i64 ((rd_T26 l1 x6_1).f0), .int .i64 ((rd_T26 l1 x6_1).f1), .string ((rd_T26 l1 x6_1).f2), .bool ((rd_T26 l1 x6_1).f3)]] (by rfl) rfl rfl (by (try simp only [List.map_toArray, List.map_cons, List.map_nil]); first | done | rfl | (simp only [List.length_drop, List.length_take]; rfl)) ?_
                                                    with_reducible refine (value_Unary.calls k3 (rd l0 x10_3) ((rd_T26 l1 x6_1).f0) ((rd_T26 l1 x6_1).f1) ((rd_T26 l1 x6_1).f2) ((rd_T26 l1 x6_1).f3) t454 t455 t456 t457 t458 _ ?side1 A26.out).mono ?_
                                                    (case side1 => first | (with_reducible exact HL_LG0) | exact ⟨LG0.below HL_LG0.out (by repeat (first | (with_reducible first | exact HB.out | apply below_alloc | apply pw_below_drewN | apply below_drew1 | refine below_set ?_ GE442.out | refine below_set ?_ GE451.out | refine below_set ?_ GE459.out) | exact HB.out))⟩)
                                                    rintro e w139 ⟨rfl, hb⟩
                                                    refine ⟨_, rfl, ?_⟩
                                                    have n0_ := Aside0.mk (blk_below (g := gb442) (o := .cells #[.int .i64 t437, .int .i64 t438, .string t439, .bool t440] 26 (0, 0)) (by (with_reducible repeat (first | refine blk_drewN ?_ _ | refine blk_drew ?_ | refine blk_alloc ?_ _)); exact BK442.out) hb)
                                                    have n1_ := Aside0.mk (blk_below (g := gb451) (o := .cells #[.int .i64 t446, .int .i64 t447, .string t448, .bool t449] 26 (0, 0)) (by (with_reducible repeat (first | refine blk_drewN ?_ _ | refine blk_drew ?_ | refine blk_alloc ?_ _)); exact BK451.out) hb)
                                                    have n2_ := Aside0.mk (blk_below (g := gb459) (o := .cells #[.int .i64 0, .int .i64 0, .string (⟨#[]⟩ : ByteArray), .bool false] 26 (0, 0)) (by (with_reducible repeat (first | refine blk_drewN ?_ _ | refine blk_drew ?_ | refine blk_alloc ?_ _)); exact BK459.out) hb)
                                                    have n3_ := Aside0.mk (below_step (by repeat (first | (with_reducible first | exact HB.out | apply below_alloc | apply pw_below_drewN | apply below_drew1 | refine below_set ?_ GE442.out | refine below_set ?_ GE451.out | refine below_set ?_ GE459.out) | exact HB.out)) hb)
                                                    clear BK442
                                                    clear BK451
                                                    clear BK459
                                                    clear HB
                                                    have BK442 := n0_
                                                    have BK451 := n1_
                                                    have BK459 := n2_
                                                    have HB := n3_
                                                    clear n0_ n1_ n2_ n3_
                                                    (try clear hb)
                                                    (try clear hb2)
                                                    (try clear hk)
                                                    (try clear hi)
                                                    refine hK.out _ _ ⟨((HB.out.cell (World.block_lt_of_cell? w _ hw452_0)).trans hw452_0), ((HB.out.cell (World.block_lt_of_cell? w _ hw453_0)).trans hw453_0), ((HB.out.cell (World.block_lt_of_cell? w _ hw453_1)).trans hw453_1), ((HB.out.cell (World.block_lt_of_cell? w _ hw453_2)).trans hw453_2), ((HB.out.cell (World.block_lt_of_cell? w _ hw453_3)).trans hw453_3)⟩ (fun hHeld => ?_)
                                                    clear hK K
                                                    refine norm_ (a' := ?_) ?_ ?_
                                                    rotate_left
                                                    · show Act.put _ (some 102) _ = _
                                                      simp only [Act.put, List.setIfInBounds_toArray, List.set_cons_zero, List.set_cons_succ, i64_w, i32_w, IntKind.wrap_u8, IntKind.wrap_u16, IntKind.wrap_u32]
                                                      rfl
                                                    refine pure_ (i := 9) (N := some 93) (v := ?_) (a' := ?_) #[true, true, true, true, true, true, true, true, true, true, false, false, true, false, false] rfl rfl (any_of HT_.out (by kernel_rfl)) (fun _ _ _ h => h) (Or.inl ⟨by rfl, ?_⟩) ?_ ?_
                                                    rotate_left
                                                    · intro w'
                                                      go_simp
                                                      with_reducible rfl
                                                    rotate_left
                                                    · simp only [Act.put, List.setIfInBounds_toArray, List.set_cons_zero, List.set_cons_succ, i64_w, i32_w, IntKind.wrap_u8, IntKind.wrap_u16, IntKind.wrap_u32]
                                                      rfl
                                                    refine pure_ (i := 10) (N := some 103) (v := ?_) (a' := ?_) #[true, true, true, true, true, true, true, true, true, true, true, false, true, false, false] rfl rfl (any_of HT_.out (by kernel_rfl)) (fun _ _ _ h => h) (Or.inl ⟨by rfl, ?_⟩) ?_ ?_
                                                    rotate_left
                                                    · intro w'
                                                      go_simp
                                                      with_reducible rfl
                                                    rotate_left
                                                    · simp only [Act.put, List.setIfInBounds_toArray, List.set_cons_zero, List.set_cons_succ, i64_w, i32_w, IntKind.wrap_u8, IntKind.wrap_u16, IntKind.wrap_u32]
                                                      rfl
                                                    refine pure_ (i := 11) (N := some 104) (v := ?_) (a' := ?_) #[true, true, true, true, true, true, true, true, true, true, true, true, true, false, false] rfl rfl (any_of HT_.out (by kernel_rfl)) (fun _ _ _ h => h) (Or.inl ⟨by rfl, ?_⟩) ?_ ?_
                                                    rotate_left
                                                    · intro w'
                                                      go_simp
                                                      with_reducible rfl
                                                    rotate_left
                                                    · simp only [Act.put, List.setIfInBounds_toArray, List.set_cons_zero, List.set_cons_succ, i64_w, i32_w, IntKind.wrap_u8, IntKind.wrap_u16, IntKind.wrap_u32]
                                                      rfl
                                                    exact norm_ (by simp only [putAll, Act.put, List.setIfInBounds_toArray, List.set_cons_zero, List.set_cons_succ]) (hCont (gb459) _ ⟨hHeld, (by (with_reducible repeat (first | refine blk_drewN ?_ _ | refine blk_drew ?_ | refine blk_alloc ?_ _)); exact BK442.out), (by (with_reducible repeat (first | refine blk_drewN ?_ _ | refine blk_drew ?_ | refine blk_alloc ?_ _)); exact BK451.out), (by (with_reducible repeat (first | refine blk_drewN ?_ _ | refine blk_drew ?_ | refine blk_alloc ?_ _)); exact BK459.out), GW459.out, GE459.out, NB442_459.out, NB459_442.out, NB451_459.out, NB459_451.out, (by repeat (first | (with_reducible first | exact HB.out | apply below_alloc | apply pw_below_drewN | apply below_drew1 | refine below_set ?_ GE442.out | refine below_set ?_ GE451.out | refine below_set ?_ GE459.out) | exact HB.out))⟩)
                                                rintro gb459 w140 ⟨hS_, h0_, h1_, h2_, h3_, h4_, h5_, h6_, h7_, h8_, h9_⟩
                                                have n0_ : Aside0 (w140.heap[gb442]? = some (.cells #[.int .i64 t437, .int .i64 t438, .string t439, .bool t440] 26 (0, 0))) := ⟨h0_⟩
                                                have n1_ : Aside0 (w140.heap[gb451]? = some (.cells #[.int .i64 t446, .int .i64 t447, .string t448, .bool t449] 26 (0, 0))) := ⟨h1_⟩
                                                have n2_ : Aside0 (w140.heap[gb459]? = some (.cells #[.int .i64 0, .int .i64 0, .string (⟨#[]⟩ : ByteArray), .bool false] 26 (0, 0))) := ⟨h2_⟩
                                                have n3_ : Aside0 (w.heap.size ≤ gb459) := ⟨h3_⟩
                                                have n4_ : Aside0 (w.heap.size ≤ gb459) := ⟨h4_⟩
                                                have n5_ : Aside0 (gb442 ≠ gb459) := ⟨h5_⟩
                                                have n6_ : Aside0 (gb459 ≠ gb442) := ⟨h6_⟩
                                                have n7_ : Aside0 (gb451 ≠ gb459) := ⟨h7_⟩
                                                have n8_ : Aside0 (gb459 ≠ gb451) := ⟨h8_⟩
                                                have n9_ : Aside0 (Below w.heap.size w w140) := ⟨h9_⟩
                                                clear BK442
                                                clear BK451
                                                clear HB
                                                clear h0_ h1_ h2_ h3_ h4_ h5_ h6_ h7_ h8_ h9_
                                                have BK442 := n0_
                                                have BK451 := n1_
                                                have BK459 := n2_
                                                have GW459 := n3_
                                                have GE459 := n4_
                                                have NB442_459 := n5_
                                                have NB459_442 := n6_
                                                have NB451_459 := n7_
                                                have NB459_451 := n8_
                                                have HB := n9_
                                                clear n0_ n1_ n2_ n3_ n4_ n5_ n6_ n7_ n8_ n9_
                                                have hHeld : w140.cell? (ad434.add (x10_3).toNat) = some (.int .i64 (rd l0 x10_3)) ∧ w140.cell? (ad428.add ((x6_1).toNat * 4)) = some (.int .i64 ((rd_T26 l1 x6_1).f0)) ∧ w140.cell? ⟨(ad428.add ((x6_1).toNat * 4)).block, (ad428.add ((x6_1).toNat * 4)).off + 1, none⟩ = some (.int .i64 ((rd_T26 l1 x6_1).f1)) ∧ w140.cell? ⟨(ad428.add ((x6_1).toNat * 4)).block, (ad428.add ((x6_1).toNat * 4)).off + 2, none⟩ = some (.string ((rd_T26 l1 x6_1).f2)) ∧ w140.cell? ⟨(ad428.add ((x6_1).toNat * 4)).block, (ad428.add ((x6_1).toNat * 4)).off + 3, none⟩ = some (.bool ((rd_T26 l1 x6_1).f3)) := hS_
                                                refine norm_ (a' := ?_) ?_ ?_
                                                rotate_left
                                                · simp only [putAll, Act.put, List.setIfInBounds_toArray, List.set_cons_zero, List.set_cons_succ]
                                                  rfl
                                                refine one_ (i := 13) (N := none) #[true, true, true, true, true, true, true, true, true, true, true, true, true, true, false] rfl rfl (one_of HT_.out (by kernel_rfl)) (by decide) (fun K hK => ?_)
                                                have hs141 : w140.cell? ⟨gb459, 0, none⟩ = some (.int .i64 0) := (blk_cell BK459.out 0).trans rfl
                                                have hfs141 := blk_frozen BK459.out 0
                                                have hns141_0 := NB442_459.out
                                                have hns141_1 := NB451_459.out
                                                have hms141_0 := NB459_442.out
                                                have hms141_1 := NB459_451.out
                                                have hs142 : w140.cell? ⟨gb459, 1, none⟩ = some (.int .i64 0) := (blk_cell BK459.out 1).trans rfl
                                                have hfs142 := blk_frozen BK459.out 1
                                                have hns142_0 := NB442_459.out
                                                have hns142_1 := NB451_459.out
                                                have hms142_0 := NB459_442.out
                                                have hms142_1 := NB459_451.out
                                                have hs143 : w140.cell? ⟨gb459, 2, none⟩ = some (.string (⟨#[]⟩ : ByteArray)) := (blk_cell BK459.out 2).trans rfl
                                                have hfs143 := blk_frozen BK459.out 2
                                                have hns143_0 := NB442_459.out
                                                have hns143_1 := NB451_459.out
                                                have hms143_0 := NB459_442.out
                                                have hms143_1 := NB459_451.out
                                                have hs144 : w140.cell? ⟨gb459, 3, none⟩ = some (.bool false) := (blk_cell BK459.out 3).trans rfl
                                                have hfs144 := blk_frozen BK459.out 3
                                                have hns144_0 := NB442_459.out
                                                have hns144_1 := NB451_459.out
                                                have hms144_0 := NB459_442.out
                                                have hms144_1 := NB459_451.out
                                                refine skip_ (w1 := ?_) (by rfl) rfl ?_ ?_
                                                rotate_left
                                                · go_simp
                                                  rfl
                                                refine hK.out _ _ ⟨((cell_far (p := ⟨gb459, _, none⟩) (by first | exact far1 hw452_0 GW459.out | exact far2 hw452_0 GW459.out | exact far3 hw452_0 GW459.out | exact far4 hw452_0 GW459.out) _).trans (((cell_far (p := ⟨gb459, _, none⟩) (by first | exact far1 hw452_0 GW459.out | exact far2 hw452_0 GW459.out | exact far3 hw452_0 GW459.out | exact far4 hw452_0 GW459.out) _).trans (((cell_far (p := ⟨gb459, _, none⟩) (by first | exact far1 hw452_0 GW459.out | exact far2 hw452_0 GW459.out | exact far3 hw452_0 GW459.out | exact far4 hw452_0 GW459.out) _).trans (((cell_far (p := ⟨gb459, _, none⟩) (by first | exact far1 hw452_0 GW459.out | exact far2 hw452_0 GW459.out | exact far3 hw452_0 GW459.out | exact far4 hw452_0 GW459.out) _).trans (hHeld.1)))))))), ((cell_far (p := ⟨gb459, _, none⟩) (by first | exact far1 hw453_0 GW459.out | exact far2 hw453_0 GW459.out | exact far3 hw453_0 GW459.out | exact far4 hw453_0 GW459.out) _).trans (((cell_far (p := ⟨gb459, _, none⟩) (by first | exact far1 hw453_0 GW459.out | exact far2 hw453_0 GW459.out | exact far3 hw453_0 GW459.out | exact far4 hw453_0 GW459.out) _).trans (((cell_far (p := ⟨gb459, _, none⟩) (by first | exact far1 hw453_0 GW459.out | exact far2 hw453_0 GW459.out | exact far3 hw453_0 GW459.out | exact far4 hw453_0 GW459.out) _).trans (((cell_far (p := ⟨gb459, _, none⟩) (by first | exact far1 hw453_0 GW459.out | exact far2 hw453_0 GW459.out | exact far3 hw453_0 GW459.out | exact far4 hw453_0 GW459.out) _).trans (hHeld.2.1)))))))), ((cell_far (p := ⟨gb459, _, none⟩) (by first | exact far1 hw453_1 GW459.out | exact far2 hw453_1 GW459.out | exact far3 hw453_1 GW459.out | exact far4 hw453_1 GW459.out) _).trans (((cell_far (p := ⟨gb459, _, none⟩) (by first | exact far1 hw453_1 GW459.out | exact far2 hw453_1 GW459.out | exact far3 hw453_1 GW459.out | exact far4 hw453_1 GW459.out) _).trans (((cell_far (p := ⟨gb459, _, none⟩) (by first | exact far1 hw453_1 GW459.out | exact far2 hw453_1 GW459.out | exact far3 hw453_1 GW459.out | exact far4 hw453_1 GW459.out) _).trans (((cell_far (p := ⟨gb459, _, none⟩) (by first | exact far1 hw453_1 GW459.out | exact far2 hw453_1 GW459.out | exact far3 hw453_1 GW459.out | exact far4 hw453_1 GW459.out) _).trans (hHeld.2.2.1)))))))), ((cell_far (p := ⟨gb459, _, none⟩) (by first | exact far1 hw453_2 GW459.out | exact far2 hw453_2 GW459.out | exact far3 hw453_2 GW459.out | exact far4 hw453_2 GW459.out) _).trans (((cell_far (p := ⟨gb459, _, none⟩) (by first | exact far1 hw453_2 GW459.out | exact far2 hw453_2 GW459.out | exact far3 hw453_2 GW459.out | exact far4 hw453_2 GW459.out) _).trans (((cell_far (p := ⟨gb459, _, none⟩) (by first | exact far1 hw453_2 GW459.out | exact far2 hw453_2 GW459.out | exact far3 hw453_2 GW459.out | exact far4 hw453_2 GW459.out) _).trans (((cell_far (p := ⟨gb459, _, none⟩) (by first | exact far1 hw453_2 GW459.out | exact far2 hw453_2 GW459.out | exact far3 hw453_2 GW459.out | exact far4 hw453_2 GW459.out) _).trans (hHeld.2.2.2.1)))))))), ((cell_far (p := ⟨gb459, _, none⟩) (by first | exact far1 hw453_3 GW459.out | exact far2 hw453_3 GW459.out | exact far3 hw453_3 GW459.out | exact far4 hw453_3 GW459.out) _).trans (((cell_far (p := ⟨gb459, _, none⟩) (by first | exact far1 hw453_3 GW459.out | exact far2 hw453_3 GW459.out | exact far3 hw453_3 GW459.out | exact far4 hw453_3 GW459.out) _).trans (((cell_far (p := ⟨gb459, _, none⟩) (by first | exact far1 hw453_3 GW459.out | exact far2 hw453_3 GW459.out | exact far3 hw453_3 GW459.out | exact far4 hw453_3 GW459.out) _).trans (((cell_far (p := ⟨gb459, _, none⟩) (by first | exact far1 hw453_3 GW459.out | exact far2 hw453_3 GW459.out | exact far3 hw453_3 GW459.out | exact far4 hw453_3 GW459.out) _).trans (hHeld.2.2.2.2))))))))⟩ (fun hHeld => ?_)
                                                clear hK K
                                                refine pure_ (i := 14) (N := some 16) (v := ?_) (a' := ?_) #[true, true, true, true, true, true, true, true, true, true, true, true, true, true, true] rfl rfl (any_of HT_.out (by kernel_rfl)) (fun _ _ _ h => h) (Or.inl ⟨by rfl, ?_⟩) ?_ ?_
                                                rotate_left
                                                · intro w'
                                                  go_simp
                                                  with_reducible rfl
                                                rotate_left
                                                · simp only [Act.put, List.setIfInBounds_toArray, List.set_cons_zero, List.set_cons_succ, i64_w, i32_w, IntKind.wrap_u8, IntKind.wrap_u16, IntKind.wrap_u32]
                                                  rfl
                                                refine done_ (done_of HT_.out (by kernel_rfl)) ?_
                                                try go_wp2
                                                have n0_ : Aside0 (((((w140.setCell ⟨gb459, 0, none⟩ (.int .i64 t454)).setCell ⟨gb459, 1, none⟩ (.int .i64 t455)).setCell ⟨gb459, 2, none⟩ (.string t456)).setCell ⟨gb459, 3, none⟩ (.bool t457)).heap[gb442]? = some (.cells #[.int .i64 t437, .int .i64 t438, .string t439, .bool t440] 26 (0, 0))) := ⟨by (with_reducible repeat (first | refine blk_drewN ?_ _ | refine blk_drew ?_ | refine blk_alloc ?_ _)); refine blk_far ?_ NB442_459.out _; (with_reducible repeat (first | refine blk_drewN ?_ _ | refine blk_drew ?_ | refine blk_alloc ?_ _)); refine blk_far ?_ NB442_459.out _; (with_reducible repeat (first | refine blk_drewN ?_ _ | refine blk_drew ?_ | refine blk_alloc ?_ _)); refine blk_far ?_ NB442_459.out _; (with_reducible repeat (first | refine blk_drewN ?_ _ | refine blk_drew ?_ | refine blk_alloc ?_ _)); refine blk_far ?_ NB442_459.out _; (with_reducible repeat (first | refine blk_drewN ?_ _ | refine blk_drew ?_ | refine blk_alloc ?_ _)); exact BK442.out⟩
                                                have n1_ : Aside0 (((((w140.setCell ⟨gb459, 0, none⟩ (.int .i64 t454)).setCell ⟨gb459, 1, none⟩ (.int .i64 t455)).setCell ⟨gb459, 2, none⟩ (.string t456)).setCell ⟨gb459, 3, none⟩ (.bool t457)).heap[gb451]? = some (.cells #[.int .i64 t446, .int .i64 t447, .string t448, .bool t449] 26 (0, 0))) := ⟨by (with_reducible repeat (first | refine blk_drewN ?_ _ | refine blk_drew ?_ | refine blk_alloc ?_ _)); refine blk_far ?_ NB451_459.out _; (with_reducible repeat (first | refine blk_drewN ?_ _ | refine blk_drew ?_ | refine blk_alloc ?_ _)); refine blk_far ?_ NB451_459.out _; (with_reducible repeat (first | refine blk_drewN ?_ _ | refine blk_drew ?_ | refine blk_alloc ?_ _)); refine blk_far ?_ NB451_459.out _; (with_reducible repeat (first | refine blk_drewN ?_ _ | refine blk_drew ?_ | refine blk_alloc ?_ _)); refine blk_far ?_ NB451_459.out _; (with_reducible repeat (first | refine blk_drewN ?_ _ | refine blk_drew ?_ | refine blk_alloc ?_ _)); exact BK451.out⟩
                                                have n2_ : Aside0 (((((w140.setCell ⟨gb459, 0, none⟩ (.int .i64 t454)).setCell ⟨gb459, 1, none⟩ (.int .i64 t455)).setCell ⟨gb459, 2, none⟩ (.string t456)).setCell ⟨gb459, 3, none⟩ (.bool t457)).heap[gb459]? = some (.cells #[.int .i64 t454, .int .i64 t455, .string t456, .bool t457] 26 (0, 0))) := ⟨by (with_reducible repeat (first | refine blk_drewN ?_ _ | refine blk_drew ?_ | refine blk_alloc ?_ _)); refine blk_put (cs := #[.int .i64 t454, .int .i64 t455, .string t456, .bool false]) ?_ 3 _ rfl; (with_reducible repeat (first | refine blk_drewN ?_ _ | refine blk_drew ?_ | refine blk_alloc ?_ _)); refine blk_put (cs := #[.int .i64 t454, .int .i64 t455, .string (⟨#[]⟩ : ByteArray), .bool false]) ?_ 2 _ rfl; (with_reducible repeat (first | refine blk_drewN ?_ _ | refine blk_drew ?_ | refine blk_alloc ?_ _)); refine blk_put (cs := #[.int .i64 t454, .int .i64 0, .string (⟨#[]⟩ : ByteArray), .bool false]) ?_ 1 _ rfl; (with_reducible repeat (first | refine blk_drewN ?_ _ | refine blk_drew ?_ | refine blk_alloc ?_ _)); refine blk_put (cs := #[.int .i64 0, .int .i64 0, .string (⟨#[]⟩ : ByteArray), .bool false]) ?_ 0 _ rfl; (with_reducible repeat (first | refine blk_drewN ?_ _ | refine blk_drew ?_ | refine blk_alloc ?_ _)); exact BK459.out⟩
                                                have n3_ : Aside0 (Below w.heap.size w ((((w140.setCell ⟨gb459, 0, none⟩ (.int .i64 t454)).setCell ⟨gb459, 1, none⟩ (.int .i64 t455)).setCell ⟨gb459, 2, none⟩ (.string t456)).setCell ⟨gb459, 3, none⟩ (.bool t457))) := ⟨by repeat (first | (with_reducible first | exact HB.out | apply below_alloc | apply pw_below_drewN | apply below_drew1 | refine below_set ?_ GE442.out | refine below_set ?_ GE451.out | refine below_set ?_ GE459.out) | exact HB.out)⟩
                                                (try clear BK442)
                                                (try clear BK451)
                                                (try clear BK459)
                                                (try clear HB)
                                                generalize ((((w140.setCell ⟨gb459, 0, none⟩ (.int .i64 t454)).setCell ⟨gb459, 1, none⟩ (.int .i64 t455)).setCell ⟨gb459, 2, none⟩ (.string t456)).setCell ⟨gb459, 3, none⟩ (.bool t457)) = w145 at n0_ n1_ n2_ n3_ ⊢
                                                have BK442 := n0_
                                                have BK451 := n1_
                                                have BK459 := n2_
                                                have HB := n3_
                                                clear n0_ n1_ n2_ n3_
                                                have n0_ := Aside0.mk (blk_drew BK442.out)
                                                have n1_ := Aside0.mk (blk_drew BK451.out)
                                                have n2_ := Aside0.mk (blk_drew BK459.out)
                                                have n3_ := Aside0.mk (below_drew1 HB.out)
                                                clear BK442
                                                clear BK451
                                                clear BK459
                                                clear HB
                                                have BK442 := n0_
                                                have BK451 := n1_
                                                have BK459 := n2_
                                                have HB := n3_
                                                clear n0_ n1_ n2_ n3_
                                                have p460 : 0 ≤ (x10_3 : Int) := of_decide_eq_true (by first | (with_reducible assumption) | assumption)
                                                have q460 : x10_3 < (l0.length : Int) := of_decide_eq_true (by first | (with_reducible assumption) | assumption)
                                                obtain ⟨ad460, e460, hx460_0⟩ := Kd.at_int HR0.out x10_3 p460 q460
                                                have hw460_0 := hx460_0
                                                obtain rfl : ad434 = ad460 := (by injection e460)
                                                replace hx460_0 := (HB.out.cell (World.block_lt_of_cell? w _ hx460_0)).trans hx460_0
                                                replace p460 := eq_true p460
                                                replace q460 := eq_true q460
                                                have p461 : 0 ≤ (x6_1 : Int) := of_decide_eq_true (by first | (with_reducible assumption) | assumption)
                                                have q461 : x6_1 < (l1.length : Int) := of_decide_eq_true (by first | (with_reducible assumption) | assumption)
                                                obtain ⟨ad461, e461, hx461_0, hx461_1, hx461_2, hx461_3⟩ := at_T26 HR1.out x6_1 p461 q461
                                                have hw461_3 := hx461_3
                                                have hw461_2 := hx461_2
                                                have hw461_1 := hx461_1
                                                have hw461_0 := hx461_0
                                                obtain rfl : ad428 = ad461 := (by injection e461)
                                                replace hx461_0 := (HB.out.cell (World.block_lt_of_cell? w _ hx461_0)).trans hx461_0
                                                replace hx461_1 := (HB.out.cell (World.block_lt_of_cell? w _ hx461_1)).trans hx461_1
                                                replace hx461_2 := (HB.out.cell (World.block_lt_of_cell? w _ hx461_2)).trans hx461_2
                                                replace hx461_3 := (HB.out.cell (World.block_lt_of_cell? w _ hx461_3)).trans hx461_3
                                                replace p461 := eq_true p461
                                                replace q461 := eq_true q461
                                                refine start_ (n := 15) (S := fun w' => w'.cell? (ad434.add (x10_3).toNat) = some (.int .i64 (rd l0 x10_3)) ∧ w'.cell? (ad428.add ((x6_1).toNat * 4)) = some (.int .i64 ((rd_T26 l1 x6_1).f0)) ∧ w'.cell? ⟨(ad428.add ((x6_1).toNat * 4)).block, (ad428.add ((x6_1).toNat * 4)).off + 1, none⟩ = some (.int .i64 ((rd_T26 l1 x6_1).f1)) ∧ w'.cell? ⟨(ad428.add ((x6_1).toNat * 4)).block, (ad428.add ((x6_1).toNat * 4)).off + 2, none⟩ = some (.string ((rd_T26 l1 x6_1).f2)) ∧ w'.cell? ⟨(ad428.add ((x6_1).toNat * 4)).block, (ad428.add ((x6_1).toNat * 4)).off + 3, none⟩ = some (.bool ((rd_T26 l1 x6_1).f3))) (ds := []) #[false, false, false, false, false, false, false, false, false, false, false, false, false, false, false] (by kernel_rfl) rfl rfl ⟨((HB.out.cell (World.block_lt_of_cell? w _ hw460_0)).trans hw460_0), ((HB.out.cell (World.block_lt_of_cell? w _ hw461_0)).trans hw461_0), ((HB.out.cell (World.block_lt_of_cell? w _ hw461_1)).trans hw461_1), ((HB.out.cell (World.block_lt_of_cell? w _ hw461_2)).trans hw461_2), ((HB.out.cell (World.block_lt_of_cell? w _ hw461_3)).trans hw461_3)⟩ (fun hHeld => ?_); refine with_tabW refrainlaw1_ValueOps.tab20 refrainlaw1_ValueOps.bits20 (fun HT_ HW_ => ?_)
                                                generalize w145.drew = w146 at BK442 BK451 BK459 HB hx460_0 hx461_0 hx461_1 hx461_2 hx461_3 hHeld ⊢
                                                refine pure_ (i := 0) (N := some 106) (v := ?_) (a' := ?_) #[true, false, false, false, false, false, false, false, false, false, false, false, false, false, false] rfl rfl (any_of HT_.out (by kernel_rfl)) (fun _ _ _ h => h) (Or.inl ⟨by rfl, ?_⟩) ?_ ?_
                                                rotate_left
                                                · intro w'
                                                  go_simp
                                                  with_reducible rfl
                                                rotate_left
                                                · simp only [Act.put, List.setIfInBounds_toArray, List.set_cons_zero, List.set_cons_succ, i64_w, i32_w, IntKind.wrap_u8, IntKind.wrap_u16, IntKind.wrap_u32]
                                                  rfl
                                                refine pure_ (i := 1) (N := some 107) (v := ?_) (a' := ?_) #[true, true, false, false, false, false, false, false, false, false, false, false, false, false, false] rfl rfl (any_of HT_.out (by kernel_rfl)) (fun _ _ _ h => h) (Or.inl ⟨by rfl, ?_⟩) ?_ ?_
                                                rotate_left
                                                · intro w'
                                                  go_simp
                                                  with_reducible rfl
                                                rotate_left
                                                · simp only [Act.put, List.setIfInBounds_toArray, List.set_cons_zero, List.set_cons_succ, i64_w, i32_w, IntKind.wrap_u8, IntKind.wrap_u16, IntKind.wrap_u32]
                                                  rfl
                                                refine pure_ (i := 2) (N := some 108) (v := ?_) (a' := ?_) #[true, true, true, false, false, false, false, false, false, false, false, false, false, false, false] rfl rfl (any_of HT_.out (by kernel_rfl)) (fun _ _ _ h => h) (Or.inl ⟨by rfl, ?_⟩) ?_ ?_
                                                rotate_left
                                                · intro w'
                                                  go_simp
                                                  with_reducible rfl
                                                rotate_left
                                                · simp only [Act.put, List.setIfInBounds_toArray, List.set_cons_zero, List.set_cons_succ, i64_w, i32_w, IntKind.wrap_u8, IntKind.wrap_u16, IntKind.wrap_u32]
                                                  rfl
                                                refine pure_ (i := 4) (N := some 110) (v := ?_) (a' := ?_) #[true, true, true, false, true, false, false, false, false, false, false, false, false, false, false] rfl rfl (any_of HT_.out (by kernel_rfl)) (fun _ _ _ h => h) (Or.inl ⟨by rfl, ?_⟩) ?_ ?_
                                                rotate_left
                                                · intro w'
                                                  go_simp
                                                  with_reducible rfl
                                                rotate_left
                                                · simp only [Act.put, List.setIfInBounds_toArray, List.set_cons_zero, List.set_cons_succ, i64_w, i32_w, IntKind.wrap_u8, IntKind.wrap_u16, IntKind.wrap_u32]
                                                  rfl
                                                refine pure_ (i := 5) (N := some 111) (v := ?_) (a' := ?_) #[true, true, true, false, true, true, false, false, false, false, false, false, false, false, false] rfl rfl (any_of HT_.out (by kernel_rfl)) (fun _ _ _ h => h) (Or.inl ⟨by rfl, ?_⟩) ?_ ?_
                                                rotate_left
                                                · intro w'
                                                  go_simp
                                                  with_reducible rfl
                                                rotate_left
                                                · simp only [Act.put, List.setIfInBounds_toArray, List.set_cons_zero, List.set_cons_succ, i64_w, i32_w, IntKind.wrap_u8, IntKind.wrap_u16, IntKind.wrap_u32]
                                                  rfl
                                                refine pure_ (i := 6) (N := some 112) (v := ?_) (a' := ?_) #[true, true, true, false, true, true, true, false, false, false, false, false, false, false, false] rfl rfl (any_of HT_.out (by kernel_rfl)) (fun _ _ _ h => h) (Or.inl ⟨by rfl, ?_⟩) ?_ ?_
                                                rotate_left
                                                · intro w'
                                                  go_simp
                                                  with_reducible rfl
                                                rotate_left
                                                · simp only [Act.put, List.setIfInBounds_toArray, List.set_cons_zero, List.set_cons_succ, i64_w, i32_w, IntKind.wrap_u8, IntKind.wrap_u16, IntKind.wrap_u32]
                                                  rfl
                                                refine take_ (i := 3) (N := some 109) (v := ?_) (a' := ?_) #[true, true, true, true, true, true, true, false, false, false, false, false, false, false, false] rfl rfl (take_ofW HT_.out HW_.out (by kernel_rfl)) (fun _ _ _ h => h) (Or.inl ⟨by rfl, ?_⟩) hHeld ?_ ?_
                                                rotate_left
                                                · rintro w' ⟨s0, s1, s2, s3, s4⟩
                                                  go_simp
                                                  with_reducible rfl
                                                rotate_left
                                                · simp only [Act.put, List.setIfInBounds_toArray, List.set_cons_zero, List.set_cons_succ, i64_w, i32_w, IntKind.wrap_u8, IntKind.wrap_u16, IntKind.wrap_u32]
                                                  rfl
                                                refine take_ (i := 7) (N := some 113) (v := ?_) (a' := ?_) #[true, true, true, true, true, true, true, true, false, false, false, false, false, false, false] rfl rfl (take_ofW HT_.out HW_.out (by kernel_rfl)) (fun _ _ _ h => h) (Or.inl ⟨by rfl, ?_⟩) hHeld ?_ ?_
                                                rotate_left
                                                · rintro w' ⟨s0, s1, s2, s3, s4⟩
                                                  go_simp
                                                  with_reducible rfl
                                                rotate_left
                                                · simp only [Act.put, List.setIfInBounds_toArray, List.set_cons_zero, List.set_cons_succ, i64_w, i32_w, IntKind.wrap_u8, IntKind.wrap_u16, IntKind.wrap_u32]
                                                  rfl
                                                refine join_ (σ := Nat) 2 #[true, true, true, true, true, true, true, true, true, true, true, true, true, false, false] (fun s_ => [(114, .tuple #[.agg #[.int .i64 t462, .int .i64 t463, .string t464, .bool t465], .int .i64 t466]), (17, .pointer (some ⟨s_, 0, none⟩)), (105, .tuple #[.agg #[.int .i64 t462, .int .i64 t463, .string t464, .bool t465], .int .i64 t466]), (115, .agg #[.int .i64 t462, .int .i64 t463, .string t464, .bool t465]), (116, .int .i64 t466)]) (fun s_ w' => (w'.cell? (ad434.add (x10_3).toNat) = some (.int .i64 (rd l0 x10_3)) ∧ w'.cell? (ad428.add ((x6_1).toNat * 4)) = some (.int .i64 ((rd_T26 l1 x6_1).f0)) ∧ w'.cell? ⟨(ad428.add ((x6_1).toNat * 4)).block, (ad428.add ((x6_1).toNat * 4)).off + 1, none⟩ = some (.int .i64 ((rd_T26 l1 x6_1).f1)) ∧ w'.cell? ⟨(ad428.add ((x6_1).toNat * 4)).block, (ad428.add ((x6_1).toNat * 4)).off + 2, none⟩ = some (.string ((rd_T26 l1 x6_1).f2)) ∧ w'.cell? ⟨(ad428.add ((x6_1).toNat * 4)).block, (ad428.add ((x6_1).toNat * 4)).off + 3, none⟩ = some (.bool ((rd_T26 l1 x6_1).f3))) ∧ (w'.heap[gb442]? = some (.cells #[.int .i64 t437, .int .i64 t438, .string t439, .bool t440] 26 (0, 0))) ∧ (w'.heap[gb451]? = some (.cells #[.int .i64 t446, .int .i64 t447, .string t448, .bool t449] 26 (0, 0))) ∧ (w'.heap[gb459]? = some (.cells #[.int .i64 t454, .int .i64 t455, .string t456, .bool t457] 26 (0, 0))) ∧ (w'.heap[s_]? = some (.cells #[.int .i64 0, .int .i64 0, .string (⟨#[]⟩ : ByteArray), .bool false] 26 (0, 0))) ∧ (w.heap.size ≤ s_) ∧ (w.heap.size ≤ s_) ∧ (gb442 ≠ s_) ∧ (s_ ≠ gb442) ∧ (gb451 ≠ s_) ∧ (s_ ≠ gb451) ∧ (gb459 ≠ s_) ∧ (s_ ≠ gb459) ∧ (Below w.heap.size w w')) ?_ ?_
                                                rotate_left
                                                · intro hCont
                                                  refine two_ (i := 8) (j := 12) (Ni := some 114) (Nj := some 17) #[true, true, true, true, true, true, true, true, true, false, false, false, false, false, false] #[true, true, true, true, true, true, true, true, false, false, false, false, true, false, false] rfl rfl rfl rfl (two_of HT_.out (by kernel_rfl)) (by decide) (by decide) (fun K hK => ?_) (fun K hK => ?_)
                                                  · skip
                                                    refine goes_ Tryd.func23 (by kernel_rfl) rfl #[.int .i64 (rd l0 x10_3), .agg #[.int .i64 ((rd_T26 l1 x6_1).f0), .int .i64 ((rd_T26 l1 x6_1).f1), .string ((rd_T26 l1 x6_1).f2), .bool ((rd_T26 l1 x6_1).f3)]] (by rfl) rfl rfl (by (try simp only [List.map_toArray, List.map_cons, List.map_nil]); first | done | rfl | (simp only [List.length_drop, List.length_take]; rfl)) ?_
                                                    with_reducible refine (refrainref1_Unary.calls k3 (rd l0 x10_3) ((rd_T26 l1 x6_1).f0) ((rd_T26 l1 x6_1).f1) ((rd_T26 l1 x6_1).f2) ((rd_T26 l1 x6_1).f3) t462 t463 t464 t465 t466 _ A27.out).mono ?_
                                                    rintro e w147 ⟨rfl, hb⟩
                                                    refine ⟨_, rfl, ?_⟩
                                                    have n0_ := Aside0.mk (blk_below (g := gb442) (o := .cells #[.int .i64 t437, .int .i64 t438, .string t439, .bool t440] 26 (0, 0)) (by (with_reducible repeat (first | refine blk_drewN ?_ _ | refine blk_drew ?_ | refine blk_alloc ?_ _)); exact BK442.out) hb)
                                                    have n1_ := Aside0.mk (blk_below (g := gb451) (o := .cells #[.int .i64 t446, .int .i64 t447, .string t448, .bool t449] 26 (0, 0)) (by (with_reducible repeat (first | refine blk_drewN ?_ _ | refine blk_drew ?_ | refine blk_alloc ?_ _)); exact BK451.out) hb)
                                                    have n2_ := Aside0.mk (blk_below (g := gb459) (o := .cells #[.int .i64 t454, .int .i64 t455, .string t456, .bool t457] 26 (0, 0)) (by (with_reducible repeat (first | refine blk_drewN ?_ _ | refine blk_drew ?_ | refine blk_alloc ?_ _)); exact BK459.out) hb)
                                                    have n3_ := Aside0.mk (below_step (by repeat (first | (with_reducible first | exact HB.out | apply below_alloc | apply pw_below_drewN | apply below_drew1 | refine below_set ?_ GE442.out | refine below_set ?_ GE451.out | refine below_set ?_ GE459.out) | exact HB.out)) hb)
                                                    clear BK442
                                                    clear BK451
                                                    clear BK459
                                                    clear HB
                                                    have BK442 := n0_
                                                    have BK451 := n1_
                                                    have BK459 := n2_
                                                    have HB := n3_
                                                    clear n0_ n1_ n2_ n3_
                                                    (try clear hb)
                                                    (try clear hb2)
                                                    (try clear hk)
                                                    (try clear hi)
                                                    refine hK.out _ _ ⟨((HB.out.cell (World.block_lt_of_cell? w _ hw460_0)).trans hw460_0), ((HB.out.cell (World.block_lt_of_cell? w _ hw461_0)).trans hw461_0), ((HB.out.cell (World.block_lt_of_cell? w _ hw461_1)).trans hw461_1), ((HB.out.cell (World.block_lt_of_cell? w _ hw461_2)).trans hw461_2), ((HB.out.cell (World.block_lt_of_cell? w _ hw461_3)).trans hw461_3)⟩ (fun hHeld => ?_)
                                                    clear hK K
                                                    refine norm_ (a' := ?_) ?_ ?_
                                                    rotate_left
                                                    · show Act.put _ (some 114) _ = _
                                                      simp only [Act.put, List.setIfInBounds_toArray, List.set_cons_zero, List.set_cons_succ, i64_w, i32_w, IntKind.wrap_u8, IntKind.wrap_u16, IntKind.wrap_u32]
                                                      rfl
                                                    refine pure_ (i := 9) (N := some 105) (v := ?_) (a' := ?_) #[true, true, true, true, true, true, true, true, true, true, false, false, false, false, false] rfl rfl (any_of HT_.out (by kernel_rfl)) (fun _ _ _ h => h) (Or.inl ⟨by rfl, ?_⟩) ?_ ?_
                                                    rotate_left
                                                    · intro w'
                                                      go_simp
                                                      with_reducible rfl
                                                    rotate_left
                                                    · simp only [Act.put, List.setIfInBounds_toArray, List.set_cons_zero, List.set_cons_succ, i64_w, i32_w, IntKind.wrap_u8, IntKind.wrap_u16, IntKind.wrap_u32]
                                                      rfl
                                                    refine pure_ (i := 10) (N := some 115) (v := ?_) (a' := ?_) #[true, true, true, true, true, true, true, true, true, true, true, false, false, false, false] rfl rfl (any_of HT_.out (by kernel_rfl)) (fun _ _ _ h => h) (Or.inl ⟨by rfl, ?_⟩) ?_ ?_
                                                    rotate_left
                                                    · intro w'
                                                      go_simp
                                                      with_reducible rfl
                                                    rotate_left
                                                    · simp only [Act.put, List.setIfInBounds_toArray, List.set_cons_zero, List.set_cons_succ, i64_w, i32_w, IntKind.wrap_u8, IntKind.wrap_u16, IntKind.wrap_u32]
                                                      rfl
                                                    refine pure_ (i := 11) (N := some 116) (v := ?_) (a' := ?_) #[true, true, true, true, true, true, true, true, true, true, true, true, false, false, false] rfl rfl (any_of HT_.out (by kernel_rfl)) (fun _ _ _ h => h) (Or.inl ⟨by rfl, ?_⟩) ?_ ?_
                                                    rotate_left
                                                    · intro w'
                                                      go_simp
                                                      with_reducible rfl
                                                    rotate_left
                                                    · simp only [Act.put, List.setIfInBounds_toArray, List.set_cons_zero, List.set_cons_succ, i64_w, i32_w, IntKind.wrap_u8, IntKind.wrap_u16, IntKind.wrap_u32]
                                                      rfl
                                                    refine one_ (i := 12) (N := some 17) #[true, true, true, true, true, true, true, true, true, true, true, true, true, false, false] rfl rfl (one_of HT_.out (by kernel_rfl)) (by decide) (fun K hK => ?_)
                                                    refine box_step ?hg (N := 17) ?hd (cs := #[.int .i64 0, .int .i64 0, .string (⟨#[]⟩ : ByteArray), .bool false]) (t := 26) ?hr ?_; (case hd => rfl); (case hg => rfl); (case hr => first | (go_simp; done) | (go_simp; rfl))
                                                    intro gb467 hg w148 hbox hb
                                                    have n0_ := Aside0.mk (blk_below (g := gb442) (o := .cells #[.int .i64 t437, .int .i64 t438, .string t439, .bool t440] 26 (0, 0)) (by (with_reducible repeat (first | refine blk_drewN ?_ _ | refine blk_drew ?_ | refine blk_alloc ?_ _)); exact BK442.out) hb)
                                                    have n1_ := Aside0.mk (blk_below (g := gb451) (o := .cells #[.int .i64 t446, .int .i64 t447, .string t448, .bool t449] 26 (0, 0)) (by (with_reducible repeat (first | refine blk_drewN ?_ _ | refine blk_drew ?_ | refine blk_alloc ?_ _)); exact BK451.out) hb)
                                                    have n2_ := Aside0.mk (blk_below (g := gb459) (o := .cells #[.int .i64 t454, .int .i64 t455, .string t456, .bool t457] 26 (0, 0)) (by (with_reducible repeat (first | refine blk_drewN ?_ _ | refine blk_drew ?_ | refine blk_alloc ?_ _)); exact BK459.out) hb)
                                                    have n3_ := Aside0.mk (below_step (by repeat (first | (with_reducible first | exact HB.out | apply below_alloc | apply pw_below_drewN | apply below_drew1 | refine below_set ?_ GE442.out | refine below_set ?_ GE451.out | refine below_set ?_ GE459.out) | exact HB.out)) hb)
                                                    have n4_ := Aside0.mk (hbox)
                                                    have n5_ := Aside0.mk ((by rw [hg]; exact (below_size (by repeat (first | (with_reducible first | exact HB.out | apply below_alloc | apply pw_below_drewN | apply below_drew1 | refine below_set ?_ GE442.out | refine below_set ?_ GE451.out | refine below_set ?_ GE459.out) | exact HB.out))) : w.heap.size ≤ gb467))
                                                    have n6_ := Aside0.mk ((by rw [hg]; exact (below_size (by repeat (first | (with_reducible first | exact HB.out | apply below_alloc | apply pw_below_drewN | apply below_drew1 | refine below_set ?_ GE442.out | refine below_set ?_ GE451.out | refine below_set ?_ GE459.out) | exact HB.out))) : w.heap.size ≤ gb467))
                                                    have n7_ := Aside0.mk ((by rw [hg]; exact Nat.ne_of_lt (blk_lt (g := gb442) (o := .cells #[.int .i64 t437, .int .i64 t438, .string t439, .bool t440] 26 (0, 0)) (by (with_reducible repeat (first | refine blk_drewN ?_ _ | refine blk_drew ?_ | refine blk_alloc ?_ _)); exact BK442.out)) : gb442 ≠ gb467))
                                                    have n8_ := Aside0.mk ((by rw [hg]; exact Nat.ne_of_gt (blk_lt (g := gb442) (o := .cells #[.int .i64 t437, .int .i64 t438, .string t439, .bool t440] 26 (0, 0)) (by (with_reducible repeat (first | refine blk_drewN ?_ _ | refine blk_drew ?_ | refine blk_alloc ?_ _)); exact BK442.out)) : gb467 ≠ gb442))
                                                    have n9_ := Aside0.mk ((by rw [hg]; exact Nat.ne_of_lt (blk_lt (g := gb451) (o := .cells #[.int .i64 t446, .int .i64 t447, .string t448, .bool t449] 26 (0, 0)) (by (with_reducible repeat (first | refine blk_drewN ?_ _ | refine blk_drew ?_ | refine blk_alloc ?_ _)); exact BK451.out)) : gb451 ≠ gb467))
                                                    have n10_ := Aside0.mk ((by rw [hg]; exact Nat.ne_of_gt (blk_lt (g := gb451) (o := .cells #[.int .i64 t446, .int .i64 t447, .string t448, .bool t449] 26 (0, 0)) (by (with_reducible repeat (first | refine blk_drewN ?_ _ | refine blk_drew ?_ | refine blk_alloc ?_ _)); exact BK451.out)) : gb467 ≠ gb451))
                                                    have n11_ := Aside0.mk ((by rw [hg]; exact Nat.ne_of_lt (blk_lt (g := gb459) (o := .cells #[.int .i64 t454, .int .i64 t455, .string t456, .bool t457] 26 (0, 0)) (by (with_reducible repeat (first | refine blk_drewN ?_ _ | refine blk_drew ?_ | refine blk_alloc ?_ _)); exact BK459.out)) : gb459 ≠ gb467))
                                                    have n12_ := Aside0.mk ((by rw [hg]; exact Nat.ne_of_gt (blk_lt (g := gb459) (o := .cells #[.int .i64 t454, .int .i64 t455, .string t456, .bool t457] 26 (0, 0)) (by (with_reducible repeat (first | refine blk_drewN ?_ _ | refine blk_drew ?_ | refine blk_alloc ?_ _)); exact BK459.out)) : gb467 ≠ gb459))
                                                    clear BK442
                                                    clear BK451
                                                    clear BK459
                                                    clear HB
                                                    have BK442 := n0_
                                                    have BK451 := n1_
                                                    have BK459 := n2_
                                                    have HB := n3_
                                                    have BK467 := n4_
                                                    have GW467 := n5_
                                                    have GE467 := n6_
                                                    have NB442_467 := n7_
                                                    have NB467_442 := n8_
                                                    have NB451_467 := n9_
                                                    have NB467_451 := n10_
                                                    have NB459_467 := n11_
                                                    have NB467_459 := n12_
                                                    clear n0_ n1_ n2_ n3_ n4_ n5_ n6_ n7_ n8_ n9_ n10_ n11_ n12_
                                                    clear hb hbox hg
                                                    refine hK.out _ _ ⟨((HB.out.cell (World.block_lt_of_cell? w _ hw460_0)).trans hw460_0), ((HB.out.cell (World.block_lt_of_cell? w _ hw461_0)).trans hw461_0), ((HB.out.cell (World.block_lt_of_cell? w _ hw461_1)).trans hw461_1), ((HB.out.cell (World.block_lt_of_cell? w _ hw461_2)).trans hw461_2), ((HB.out.cell (World.block_lt_of_cell? w _ hw461_3)).trans hw461_3)⟩ (fun hHeld => ?_)
                                                    clear hK K
                                                    refine norm_ (a' := ?_) ?_ ?_
                                                    rotate_left
                                                    · show Act.put _ (some 17) _ = _
                                                      simp only [Act.put, List.setIfInBounds_toArray, List.set_cons_zero, List.set_cons_succ, i64_w, i32_w, IntKind.wrap_u8, IntKind.wrap_u16, IntKind.wrap_u32]
                                                      rfl
                                                    exact norm_ (by simp only [putAll, Act.put, List.setIfInBounds_toArray, List.set_cons_zero, List.set_cons_succ]) (hCont (gb467) _ ⟨hHeld, (by (with_reducible repeat (first | refine blk_drewN ?_ _ | refine blk_drew ?_ | refine blk_alloc ?_ _)); exact BK442.out), (by (with_reducible repeat (first | refine blk_drewN ?_ _ | refine blk_drew ?_ | refine blk_alloc ?_ _)); exact BK451.out), (by (with_reducible repeat (first | refine blk_drewN ?_ _ | refine blk_drew ?_ | refine blk_alloc ?_ _)); exact BK459.out), (by (with_reducible repeat (first | refine blk_drewN ?_ _ | refine blk_drew ?_ | refine blk_alloc ?_ _)); exact BK467.out), GW467.out, GE467.out, NB442_467.out, NB467_442.out, NB451_467.out, NB467_451.out, NB459_467.out, NB467_459.out, (by repeat (first | (with_reducible first | exact HB.out | apply below_alloc | apply pw_below_drewN | apply below_drew1 | refine below_set ?_ GE442.out | refine below_set ?_ GE451.out | refine below_set ?_ GE459.out | refine below_set ?_ GE467.out) | exact HB.out))⟩)
                                                  · skip
                                                    refine box_step ?hg (N := 17) ?hd (cs := #[.int .i64 0, .int .i64 0, .string (⟨#[]⟩ : ByteArray), .bool false]) (t := 26) ?hr ?_; (case hd => rfl); (case hg => rfl); (case hr => first | (go_simp; done) | (go_simp; rfl))
                                                    intro gb467 hg w147 hbox hb
                                                    have n0_ := Aside0.mk (blk_below (g := gb442) (o := .cells #[.int .i64 t437, .int .i64 t438, .string t439, .bool t440] 26 (0, 0)) (by (with_reducible repeat (first | refine blk_drewN ?_ _ | refine blk_drew ?_ | refine blk_alloc ?_ _)); exact BK442.out) hb)
                                                    have n1_ := Aside0.mk (blk_below (g := gb451) (o := .cells #[.int .i64 t446, .int .i64 t447, .string t448, .bool t449] 26 (0, 0)) (by (with_reducible repeat (first | refine blk_drewN ?_ _ | refine blk_drew ?_ | refine blk_alloc ?_ _)); exact BK451.out) hb)
                                                    have n2_ := Aside0.mk (blk_below (g := gb459) (o := .cells #[.int .i64 t454, .int .i64 t455, .string t456, .bool t457] 26 (0, 0)) (by (with_reducible repeat (first | refine blk_drewN ?_ _ | refine blk_drew ?_ | refine blk_alloc ?_ _)); exact BK459.out) hb)
                                                    have n3_ := Aside0.mk (below_step (by repeat (first | (with_reducible first | exact HB.out | apply below_alloc | apply pw_below_drewN | apply below_drew1 | refine below_set ?_ GE442.out | refine below_set ?_ GE451.out | refine below_set ?_ GE459.out) | exact HB.out)) hb)
                                                    have n4_ := Aside0.mk (hbox)
                                                    have n5_ := Aside0.mk ((by rw [hg]; exact (below_size (by repeat (first | (with_reducible first | exact HB.out | apply below_alloc | apply pw_below_drewN | apply below_drew1 | refine below_set ?_ GE442.out | refine below_set ?_ GE451.out | refine below_set ?_ GE459.out) | exact HB.out))) : w.heap.size ≤ gb467))
                                                    have n6_ := Aside0.mk ((by rw [hg]; exact (below_size (by repeat (first | (with_reducible first | exact HB.out | apply below_alloc | apply pw_below_drewN | apply below_drew1 | refine below_set ?_ GE442.out | refine below_set ?_ GE451.out | refine below_set ?_ GE459.out) | exact HB.out))) : w.heap.size ≤ gb467))
                                                    have n7_ := Aside0.mk ((by rw [hg]; exact Nat.ne_of_lt (blk_lt (g := gb442) (o := .cells #[.int .i64 t437, .int .i64 t438, .string t439, .bool t440] 26 (0, 0)) (by (with_reducible repeat (first | refine blk_drewN ?_ _ | refine blk_drew ?_ | refine blk_alloc ?_ _)); exact BK442.out)) : gb442 ≠ gb467))
                                                    have n8_ := Aside0.mk ((by rw [hg]; exact Nat.ne_of_gt (blk_lt (g := gb442) (o := .cells #[.int .i64 t437, .int .i64 t438, .string t439, .bool t440] 26 (0, 0)) (by (with_reducible repeat (first | refine blk_drewN ?_ _ | refine blk_drew ?_ | refine blk_alloc ?_ _)); exact BK442.out)) : gb467 ≠ gb442))
                                                    have n9_ := Aside0.mk ((by rw [hg]; exact Nat.ne_of_lt (blk_lt (g := gb451) (o := .cells #[.int .i64 t446, .int .i64 t447, .string t448, .bool t449] 26 (0, 0)) (by (with_reducible repeat (first | refine blk_drewN ?_ _ | refine blk_drew ?_ | refine blk_alloc ?_ _)); exact BK451.out)) : gb451 ≠ gb467))
                                                    have n10_ := Aside0.mk ((by rw [hg]; exact Nat.ne_of_gt (blk_lt (g := gb451) (o := .cells #[.int .i64 t446, .int .i64 t447, .string t448, .bool t449] 26 (0, 0)) (by (with_reducible repeat (first | refine blk_drewN ?_ _ | refine blk_drew ?_ | refine blk_alloc ?_ _)); exact BK451.out)) : gb467 ≠ gb451))
                                                    have n11_ := Aside0.mk ((by rw [hg]; exact Nat.ne_of_lt (blk_lt (g := gb459) (o := .cells #[.int .i64 t454, .int .i64 t455, .string t456, .bool t457] 26 (0, 0)) (by (with_reducible repeat (first | refine blk_drewN ?_ _ | refine blk_drew ?_ | refine blk_alloc ?_ _)); exact BK459.out)) : gb459 ≠ gb467))
                                                    have n12_ := Aside0.mk ((by rw [hg]; exact Nat.ne_of_gt (blk_lt (g := gb459) (o := .cells #[.int .i64 t454, .int .i64 t455, .string t456, .bool t457] 26 (0, 0)) (by (with_reducible repeat (first | refine blk_drewN ?_ _ | refine blk_drew ?_ | refine blk_alloc ?_ _)); exact BK459.out)) : gb467 ≠ gb459))
                                                    clear BK442
                                                    clear BK451
                                                    clear BK459
                                                    clear HB
                                                    have BK442 := n0_
                                                    have BK451 := n1_
                                                    have BK459 := n2_
                                                    have HB := n3_
                                                    have BK467 := n4_
                                                    have GW467 := n5_
                                                    have GE467 := n6_
                                                    have NB442_467 := n7_
                                                    have NB467_442 := n8_
                                                    have NB451_467 := n9_
                                                    have NB467_451 := n10_
                                                    have NB459_467 := n11_
                                                    have NB467_459 := n12_
                                                    clear n0_ n1_ n2_ n3_ n4_ n5_ n6_ n7_ n8_ n9_ n10_ n11_ n12_
                                                    clear hb hbox hg
                                                    refine hK.out _ _ ⟨((HB.out.cell (World.block_lt_of_cell? w _ hw460_0)).trans hw460_0), ((HB.out.cell (World.block_lt_of_cell? w _ hw461_0)).trans hw461_0), ((HB.out.cell (World.block_lt_of_cell? w _ hw461_1)).trans hw461_1), ((HB.out.cell (World.block_lt_of_cell? w _ hw461_2)).trans hw461_2), ((HB.out.cell (World.block_lt_of_cell? w _ hw461_3)).trans hw461_3)⟩ (fun hHeld => ?_)
                                                    clear hK K
                                                    refine norm_ (a' := ?_) ?_ ?_
                                                    rotate_left
                                                    · show Act.put _ (some 17) _ = _
                                                      simp only [Act.put, List.setIfInBounds_toArray, List.set_cons_zero, List.set_cons_succ, i64_w, i32_w, IntKind.wrap_u8, IntKind.wrap_u16, IntKind.wrap_u32]
                                                      rfl
                                                    refine one_ (i := 8) (N := some 114) #[true, true, true, true, true, true, true, true, true, false, false, false, true, false, false] rfl rfl (one_of HT_.out (by kernel_rfl)) (by decide) (fun K hK => ?_)
                                                    refine goes_ Tryd.func23 (by kernel_rfl) rfl #[.int .i64 (rd l0 x10_3), .agg #[.int .i64 ((rd_T26 l1 x6_1).f0), .int .i64 ((rd_T26 l1 x6_1).f1), .string ((rd_T26 l1 x6_1).f2), .bool ((rd_T26 l1 x6_1).f3)]] (by rfl) rfl rfl (by (try simp only [List.map_toArray, List.map_cons, List.map_nil]); first | done | rfl | (simp only [List.length_drop, List.length_take]; rfl)) ?_
                                                    with_reducible refine (refrainref1_Unary.calls k3 (rd l0 x10_3) ((rd_T26 l1 x6_1).f0) ((rd_T26 l1 x6_1).f1) ((rd_T26 l1 x6_1).f2) ((rd_T26 l1 x6_1).f3) t462 t463 t464 t465 t466 _ A27.out).mono ?_
                                                    rintro e w148 ⟨rfl, hb⟩
                                                    refine ⟨_, rfl, ?_⟩
                                                    have n0_ := Aside0.mk (blk_below (g := gb442) (o := .cells #[.int .i64 t437, .int .i64 t438, .string t439, .bool t440] 26 (0, 0)) (by (with_reducible repeat (first | refine blk_drewN ?_ _ | refine blk_drew ?_ | refine blk_alloc ?_ _)); exact BK442.out) hb)
                                                    have n1_ := Aside0.mk (blk_below (g := gb451) (o := .cells #[.int .i64 t446, .int .i64 t447, .string t448, .bool t449] 26 (0, 0)) (by (with_reducible repeat (first | refine blk_drewN ?_ _ | refine blk_drew ?_ | refine blk_alloc ?_ _)); exact BK451.out) hb)
                                                    have n2_ := Aside0.mk (blk_below (g := gb459) (o := .cells #[.int .i64 t454, .int .i64 t455, .string t456, .bool t457] 26 (0, 0)) (by (with_reducible repeat (first | refine blk_drewN ?_ _ | refine blk_drew ?_ | refine blk_alloc ?_ _)); exact BK459.out) hb)
                                                    have n3_ := Aside0.mk (blk_below (g := gb467) (o := .cells #[.int .i64 0, .int .i64 0, .string (⟨#[]⟩ : ByteArray), .bool false] 26 (0, 0)) (by (with_reducible repeat (first | refine blk_drewN ?_ _ | refine blk_drew ?_ | refine blk_alloc ?_ _)); exact BK467.out) hb)
                                                    have n4_ := Aside0.mk (below_step (by repeat (first | (with_reducible first | exact HB.out | apply below_alloc | apply pw_below_drewN | apply below_drew1 | refine below_set ?_ GE442.out | refine below_set ?_ GE451.out | refine below_set ?_ GE459.out | refine below_set ?_ GE467.out) | exact HB.out)) hb)
                                                    clear BK442
                                                    clear BK451
                                                    clear BK459
                                                    clear BK467
                                                    clear HB
                                                    have BK442 := n0_
                                                    have BK451 := n1_
                                                    have BK459 := n2_
                                                    have BK467 := n3_
                                                    have HB := n4_
                                                    clear n0_ n1_ n2_ n3_ n4_
                                                    (try clear hb)
                                                    (try clear hb2)
                                                    (try clear hk)
                                                    (try clear hi)
                                                    refine hK.out _ _ ⟨((HB.out.cell (World.block_lt_of_cell? w _ hw460_0)).trans hw460_0), ((HB.out.cell (World.block_lt_of_cell? w _ hw461_0)).trans hw461_0), ((HB.out.cell (World.block_lt_of_cell? w _ hw461_1)).trans hw461_1), ((HB.out.cell (World.block_lt_of_cell? w _ hw461_2)).trans hw461_2), ((HB.out.cell (World.block_lt_of_cell? w _ hw461_3)).trans hw461_3)⟩ (fun hHeld => ?_)
                                                    clear hK K
                                                    refine norm_ (a' := ?_) ?_ ?_
                                                    rotate_left
                                                    · show Act.put _ (some 114) _ = _
                                                      simp only [Act.put, List.setIfInBounds_toArray, List.set_cons_zero, List.set_cons_succ, i64_w, i32_w, IntKind.wrap_u8, IntKind.wrap_u16, IntKind.wrap_u32]
                                                      rfl
                                                    refine pure_ (i := 9) (N := some 105) (v := ?_) (a' := ?_) #[true, true, true, true, true, true, true, true, true, true, false, false, true, false, false] rfl rfl (any_of HT_.out (by kernel_rfl)) (fun _ _ _ h => h) (Or.inl ⟨by rfl, ?_⟩) ?_ ?_
                                                    rotate_left
                                                    · intro w'
                                                      go_simp
                                                      with_reducible rfl
                                                    rotate_left
                                                    · simp only [Act.put, List.setIfInBounds_toArray, List.set_cons_zero, List.set_cons_succ, i64_w, i32_w, IntKind.wrap_u8, IntKind.wrap_u16, IntKind.wrap_u32]
                                                      rfl
                                                    refine pure_ (i := 10) (N := some 115) (v := ?_) (a' := ?_) #[true, true, true, true, true, true, true, true, true, true, true, false, true, false, false] rfl rfl (any_of HT_.out (by kernel_rfl)) (fun _ _ _ h => h) (Or.inl ⟨by rfl, ?_⟩) ?_ ?_
                                                    rotate_left
                                                    · intro w'
                                                      go_simp
                                                      with_reducible rfl
                                                    rotate_left
                                                    · simp only [Act.put, List.setIfInBounds_toArray, List.set_cons_zero, List.set_cons_succ, i64_w, i32_w, IntKind.wrap_u8, IntKind.wrap_u16, IntKind.wrap_u32]
                                                      rfl
                                                    refine pure_ (i := 11) (N := some 116) (v := ?_) (a' := ?_) #[true, true, true, true, true, true, true, true, true, true, true, true, true, false, false] rfl rfl (any_of HT_.out (by kernel_rfl)) (fun _ _ _ h => h) (Or.inl ⟨by rfl, ?_⟩) ?_ ?_
                                                    rotate_left
                                                    · intro w'
                                                      go_simp
                                                      with_reducible rfl
                                                    rotate_left
                                                    · simp only [Act.put, List.setIfInBounds_toArray, List.set_cons_zero, List.set_cons_succ, i64_w, i32_w, IntKind.wrap_u8, IntKind.wrap_u16, IntKind.wrap_u32]
                                                      rfl
                                                    exact norm_ (by simp only [putAll, Act.put, List.setIfInBounds_toArray, List.set_cons_zero, List.set_cons_succ]) (hCont (gb467) _ ⟨hHeld, (by (with_reducible repeat (first | refine blk_drewN ?_ _ | refine blk_drew ?_ | refine blk_alloc ?_ _)); exact BK442.out), (by (with_reducible repeat (first | refine blk_drewN ?_ _ | refine blk_drew ?_ | refine blk_alloc ?_ _)); exact BK451.out), (by (with_reducible repeat (first | refine blk_drewN ?_ _ | refine blk_drew ?_ | refine blk_alloc ?_ _)); exact BK459.out), (by (with_reducible repeat (first | refine blk_drewN ?_ _ | refine blk_drew ?_ | refine blk_alloc ?_ _)); exact BK467.out), GW467.out, GE467.out, NB442_467.out, NB467_442.out, NB451_467.out, NB467_451.out, NB459_467.out, NB467_459.out, (by repeat (first | (with_reducible first | exact HB.out | apply below_alloc | apply pw_below_drewN | apply below_drew1 | refine below_set ?_ GE442.out | refine below_set ?_ GE451.out | refine below_set ?_ GE459.out | refine below_set ?_ GE467.out) | exact HB.out))⟩)
                                                rintro gb467 w149 ⟨hS_, h0_, h1_, h2_, h3_, h4_, h5_, h6_, h7_, h8_, h9_, h10_, h11_, h12_⟩
                                                have n0_ : Aside0 (w149.heap[gb442]? = some (.cells #[.int .i64 t437, .int .i64 t438, .string t439, .bool t440] 26 (0, 0))) := ⟨h0_⟩
                                                have n1_ : Aside0 (w149.heap[gb451]? = some (.cells #[.int .i64 t446, .int .i64 t447, .string t448, .bool t449] 26 (0, 0))) := ⟨h1_⟩
                                                have n2_ : Aside0 (w149.heap[gb459]? = some (.cells #[.int .i64 t454, .int .i64 t455, .string t456, .bool t457] 26 (0, 0))) := ⟨h2_⟩
                                                have n3_ : Aside0 (w149.heap[gb467]? = some (.cells #[.int .i64 0, .int .i64 0, .string (⟨#[]⟩ : ByteArray), .bool false] 26 (0, 0))) := ⟨h3_⟩
                                                have n4_ : Aside0 (w.heap.size ≤ gb467) := ⟨h4_⟩
                                                have n5_ : Aside0 (w.heap.size ≤ gb467) := ⟨h5_⟩
                                                have n6_ : Aside0 (gb442 ≠ gb467) := ⟨h6_⟩
                                                have n7_ : Aside0 (gb467 ≠ gb442) := ⟨h7_⟩
                                                have n8_ : Aside0 (gb451 ≠ gb467) := ⟨h8_⟩
                                                have n9_ : Aside0 (gb467 ≠ gb451) := ⟨h9_⟩
                                                have n10_ : Aside0 (gb459 ≠ gb467) := ⟨h10_⟩
                                                have n11_ : Aside0 (gb467 ≠ gb459) := ⟨h11_⟩
                                                have n12_ : Aside0 (Below w.heap.size w w149) := ⟨h12_⟩
                                                clear BK442
                                                clear BK451
                                                clear BK459
                                                clear HB
                                                clear h0_ h1_ h2_ h3_ h4_ h5_ h6_ h7_ h8_ h9_ h10_ h11_ h12_
                                                have BK442 := n0_
                                                have BK451 := n1_
                                                have BK459 := n2_
                                                have BK467 := n3_
                                                have GW467 := n4_
                                                have GE467 := n5_
                                                have NB442_467 := n6_
                                                have NB467_442 := n7_
                                                have NB451_467 := n8_
                                                have NB467_451 := n9_
                                                have NB459_467 := n10_
                                                have NB467_459 := n11_
                                                have HB := n12_
                                                clear n0_ n1_ n2_ n3_ n4_ n5_ n6_ n7_ n8_ n9_ n10_ n11_ n12_
                                                have hHeld : w149.cell? (ad434.add (x10_3).toNat) = some (.int .i64 (rd l0 x10_3)) ∧ w149.cell? (ad428.add ((x6_1).toNat * 4)) = some (.int .i64 ((rd_T26 l1 x6_1).f0)) ∧ w149.cell? ⟨(ad428.add ((x6_1).toNat * 4)).block, (ad428.add ((x6_1).toNat * 4)).off + 1, none⟩ = some (.int .i64 ((rd_T26 l1 x6_1).f1)) ∧ w149.cell? ⟨(ad428.add ((x6_1).toNat * 4)).block, (ad428.add ((x6_1).toNat * 4)).off + 2, none⟩ = some (.string ((rd_T26 l1 x6_1).f2)) ∧ w149.cell? ⟨(ad428.add ((x6_1).toNat * 4)).block, (ad428.add ((x6_1).toNat * 4)).off + 3, none⟩ = some (.bool ((rd_T26 l1 x6_1).f3)) := hS_
                                                refine norm_ (a' := ?_) ?_ ?_
                                                rotate_left
                                                · simp only [putAll, Act.put, List.setIfInBounds_toArray, List.set_cons_zero, List.set_cons_succ]
                                                  rfl
                                                refine one_ (i := 13) (N := none) #[true, true, true, true, true, true, true, true, true, true, true, true, true, true, false] rfl rfl (one_of HT_.out (by kernel_rfl)) (by decide) (fun K hK => ?_)
                                                have hs150 : w149.cell? ⟨gb467, 0, none⟩ = some (.int .i64 0) := (blk_cell BK467.out 0).trans rfl
                                                have hfs150 := blk_frozen BK467.out 0
                                                have hns150_0 := NB442_467.out
                                                have hns150_1 := NB451_467.out
                                                have hns150_2 := NB459_467.out
                                                have hms150_0 := NB467_442.out
                                                have hms150_1 := NB467_451.out
                                                have hms150_2 := NB467_459.out
                                                have hs151 : w149.cell? ⟨gb467, 1, none⟩ = some (.int .i64 0) := (blk_cell BK467.out 1).trans rfl
                                                have hfs151 := blk_frozen BK467.out 1
                                                have hns151_0 := NB442_467.out
                                                have hns151_1 := NB451_467.out
                                                have hns151_2 := NB459_467.out
                                                have hms151_0 := NB467_442.out
                                                have hms151_1 := NB467_451.out
                                                have hms151_2 := NB467_459.out
                                                have hs152 : w149.cell? ⟨gb467, 2, none⟩ = some (.string (⟨#[]⟩ : ByteArray)) := (blk_cell BK467.out 2).trans rfl
                                                have hfs152 := blk_frozen BK467.out 2
                                                have hns152_0 := NB442_467.out
                                                have hns152_1 := NB451_467.out
                                                have hns152_2 := NB459_467.out
                                                have hms152_0 := NB467_442.out
                                                have hms152_1 := NB467_451.out
                                                have hms152_2 := NB467_459.out
                                                have hs153 : w149.cell? ⟨gb467, 3, none⟩ = some (.bool false) := (blk_cell BK467.out 3).trans rfl
                                                have hfs153 := blk_frozen BK467.out 3
                                                have hns153_0 := NB442_467.out
                                                have hns153_1 := NB451_467.out
                                                have hns153_2 := NB459_467.out
                                                have hms153_0 := NB467_442.out
                                                have hms153_1 := NB467_451.out
                                                have hms153_2 := NB467_459.out
                                                refine skip_ (w1 := ?_) (by rfl) rfl ?_ ?_
                                                rotate_left
                                                · go_simp
                                                  rfl
                                                refine hK.out _ _ ⟨((cell_far (p := ⟨gb467, _, none⟩) (by first | exact far1 hw460_0 GW467.out | exact far2 hw460_0 GW467.out | exact far3 hw460_0 GW467.out | exact far4 hw460_0 GW467.out) _).trans (((cell_far (p := ⟨gb467, _, none⟩) (by first | exact far1 hw460_0 GW467.out | exact far2 hw460_0 GW467.out | exact far3 hw460_0 GW467.out | exact far4 hw460_0 GW467.out) _).trans (((cell_far (p := ⟨gb467, _, none⟩) (by first | exact far1 hw460_0 GW467.out | exact far2 hw460_0 GW467.out | exact far3 hw460_0 GW467.out | exact far4 hw460_0 GW467.out) _).trans (((cell_far (p := ⟨gb467, _, none⟩) (by first | exact far1 hw460_0 GW467.out | exact far2 hw460_0 GW467.out | exact far3 hw460_0 GW467.out | exact far4 hw460_0 GW467.out) _).trans (hHeld.1)))))))), ((cell_far (p := ⟨gb467, _, none⟩) (by first | exact far1 hw461_0 GW467.out | exact far2 hw461_0 GW467.out | exact far3 hw461_0 GW467.out | exact far4 hw461_0 GW467.out) _).trans (((cell_far (p := ⟨gb467, _, none⟩) (by first | exact far1 hw461_0 GW467.out | exact far2 hw461_0 GW467.out | exact far3 hw461_0 GW467.out | exact far4 hw461_0 GW467.out) _).trans (((cell_far (p := ⟨gb467, _, none⟩) (by first | exact far1 hw461_0 GW467.out | exact far2 hw461_0 GW467.out | exact far3 hw461_0 GW467.out | exact far4 hw461_0 GW467.out) _).trans (((cell_far (p := ⟨gb467, _, none⟩) (by first | exact far1 hw461_0 GW467.out | exact far2 hw461_0 GW467.out | exact far3 hw461_0 GW467.out | exact far4 hw461_0 GW467.out) _).trans (hHeld.2.1)))))))), ((cell_far (p := ⟨gb467, _, none⟩) (by first | exact far1 hw461_1 GW467.out | exact far2 hw461_1 GW467.out | exact far3 hw461_1 GW467.out | exact far4 hw461_1 GW467.out) _).trans (((cell_far (p := ⟨gb467, _, none⟩) (by first | exact far1 hw461_1 GW467.out | exact far2 hw461_1 GW467.out | exact far3 hw461_1 GW467.out | exact far4 hw461_1 GW467.out) _).trans (((cell_far (p := ⟨gb467, _, none⟩) (by first | exact far1 hw461_1 GW467.out | exact far2 hw461_1 GW467.out | exact far3 hw461_1 GW467.out | exact far4 hw461_1 GW467.out) _).trans (((cell_far (p := ⟨gb467, _, none⟩) (by first | exact far1 hw461_1 GW467.out | exact far2 hw461_1 GW467.out | exact far3 hw461_1 GW467.out | exact far4 hw461_1 GW467.out) _).trans (hHeld.2.2.1)))))))), ((cell_far (p := ⟨gb467, _, none⟩) (by first | exact far1 hw461_2 GW467.out | exact far2 hw461_2 GW467.out | exact far3 hw461_2 GW467.out | exact far4 hw461_2 GW467.out) _).trans (((cell_far (p := ⟨gb467, _, none⟩) (by first | exact far1 hw461_2 GW467.out | exact far2 hw461_2 GW467.out | exact far3 hw461_2 GW467.out | exact far4 hw461_2 GW467.out) _).trans (((cell_far (p := ⟨gb467, _, none⟩) (by first | exact far1 hw461_2 GW467.out | exact far2 hw461_2 GW467.out | exact far3 hw461_2 GW467.out | exact far4 hw461_2 GW467.out) _).trans (((cell_far (p := ⟨gb467, _, none⟩) (by first | exact far1 hw461_2 GW467.out | exact far2 hw461_2 GW467.out | exact far3 hw461_2 GW467.out | exact far4 hw461_2 GW467.out) _).trans (hHeld.2.2.2.1)))))))), ((cell_far (p := ⟨gb467, _, none⟩) (by first | exact far1 hw461_3 GW467.out | exact far2 hw461_3 GW467.out | exact far3 hw461_3 GW467.out | exact far4 hw461_3 GW467.out) _).trans (((cell_far (p := ⟨gb467, _, none⟩) (by first | exact far1 hw461_3 GW467.out | exact far2 hw461_3 GW467.out | exact far3 hw461_3 GW467.out | exact far4 hw461_3 GW467.out) _).trans (((cell_far (p := ⟨gb467, _, none⟩) (by first | exact far1 hw461_3 GW467.out | exact far2 hw461_3 GW467.out | exact far3 hw461_3 GW467.out | exact far4 hw461_3 GW467.out) _).trans (((cell_far (p := ⟨gb467, _, none⟩) (by first | exact far1 hw461_3 GW467.out | exact far2 hw461_3 GW467.out | exact far3 hw461_3 GW467.out | exact far4 hw461_3 GW467.out) _).trans (hHeld.2.2.2.2))))))))⟩ (fun hHeld => ?_)
                                                clear hK K
                                                refine pure_ (i := 14) (N := some 18) (v := ?_) (a' := ?_) #[true, true, true, true, true, true, true, true, true, true, true, true, true, true, true] rfl rfl (any_of HT_.out (by kernel_rfl)) (fun _ _ _ h => h) (Or.inl ⟨by rfl, ?_⟩) ?_ ?_
                                                rotate_left
                                                · intro w'
                                                  go_simp
                                                  with_reducible rfl
                                                rotate_left
                                                · simp only [Act.put, List.setIfInBounds_toArray, List.set_cons_zero, List.set_cons_succ, i64_w, i32_w, IntKind.wrap_u8, IntKind.wrap_u16, IntKind.wrap_u32]
                                                  rfl
                                                refine done_ (done_of HT_.out (by kernel_rfl)) ?_
                                                have hnb154 := NB442_451.out
                                                have hnc154 := NB451_442.out
                                                have hnb155 := NB442_459.out
                                                have hnc155 := NB459_442.out
                                                have hnb156 := NB442_467.out
                                                have hnc156 := NB467_442.out
                                                have hcz157_0 : w149.cell? ⟨gb442, 0, none⟩ = some (.int .i64 t437) := (blk_cell BK442.out 0).trans rfl
                                                have hcz157_1 : w149.cell? ⟨gb442, 1, none⟩ = some (.int .i64 t438) := (blk_cell BK442.out 1).trans rfl
                                                have hcz157_2 : w149.cell? ⟨gb442, 2, none⟩ = some (.string t439) := (blk_cell BK442.out 2).trans rfl
                                                have hcz157_3 : w149.cell? ⟨gb442, 3, none⟩ = some (.bool t440) := (blk_cell BK442.out 3).trans rfl
                                                have hfz157_0 := blk_frozen BK442.out 0
                                                have hfz157_1 := blk_frozen BK442.out 1
                                                have hfz157_2 := blk_frozen BK442.out 2
                                                have hfz157_3 := blk_frozen BK442.out 3
                                                have hnb158 := NB451_459.out
                                                have hnc158 := NB459_451.out
                                                have hnb159 := NB451_467.out
                                                have hnc159 := NB467_451.out
                                                have hcz160_0 : w149.cell? ⟨gb451, 0, none⟩ = some (.int .i64 t446) := (blk_cell BK451.out 0).trans rfl
                                                have hcz160_1 : w149.cell? ⟨gb451, 1, none⟩ = some (.int .i64 t447) := (blk_cell BK451.out 1).trans rfl
                                                have hcz160_2 : w149.cell? ⟨gb451, 2, none⟩ = some (.string t448) := (blk_cell BK451.out 2).trans rfl
                                                have hcz160_3 : w149.cell? ⟨gb451, 3, none⟩ = some (.bool t449) := (blk_cell BK451.out 3).trans rfl
                                                have hfz160_0 := blk_frozen BK451.out 0
                                                have hfz160_1 := blk_frozen BK451.out 1
                                                have hfz160_2 := blk_frozen BK451.out 2
                                                have hfz160_3 := blk_frozen BK451.out 3
                                                have hnb161 := NB459_467.out
                                                have hnc161 := NB467_459.out
                                                have hcz162_0 : w149.cell? ⟨gb459, 0, none⟩ = some (.int .i64 t454) := (blk_cell BK459.out 0).trans rfl
                                                have hcz162_1 : w149.cell? ⟨gb459, 1, none⟩ = some (.int .i64 t455) := (blk_cell BK459.out 1).trans rfl
                                                have hcz162_2 : w149.cell? ⟨gb459, 2, none⟩ = some (.string t456) := (blk_cell BK459.out 2).trans rfl
                                                have hcz162_3 : w149.cell? ⟨gb459, 3, none⟩ = some (.bool t457) := (blk_cell BK459.out 3).trans rfl
                                                have hfz162_0 := blk_frozen BK459.out 0
                                                have hfz162_1 := blk_frozen BK459.out 1
                                                have hfz162_2 := blk_frozen BK459.out 2
                                                have hfz162_3 := blk_frozen BK459.out 3
                                                have hcz163_0 : w149.cell? ⟨gb467, 0, none⟩ = some (.int .i64 0) := (blk_cell BK467.out 0).trans rfl
                                                have hcz163_1 : w149.cell? ⟨gb467, 1, none⟩ = some (.int .i64 0) := (blk_cell BK467.out 1).trans rfl
                                                have hcz163_2 : w149.cell? ⟨gb467, 2, none⟩ = some (.string (⟨#[]⟩ : ByteArray)) := (blk_cell BK467.out 2).trans rfl
                                                have hcz163_3 : w149.cell? ⟨gb467, 3, none⟩ = some (.bool false) := (blk_cell BK467.out 3).trans rfl
                                                have hfz163_0 := blk_frozen BK467.out 0
                                                have hfz163_1 := blk_frozen BK467.out 1
                                                have hfz163_2 := blk_frozen BK467.out 2
                                                have hfz163_3 := blk_frozen BK467.out 3
                                                try go_wp2
                                                go_roundg k3
                                                case measure => have := HK1.out; have := HK2.out; have := HK3.out; omega
                                                case rel => exact ⟨(wrap64 (x10_3 + 1)), (by first | rfl | (simp; done) | (simp [*]; done) | (simp; unfold wrap64; omega)), H', ⟨by have := HK1.out; have := HK2.out; have := HK3.out; omega⟩, ⟨by repeat (first | (with_reducible first | exact HB.out | apply below_alloc | apply pw_below_drewN | apply below_drew1 | refine below_set ?_ GE442.out | refine below_set ?_ GE451.out | refine below_set ?_ GE459.out | refine below_set ?_ GE467.out) | exact HB.out)⟩⟩
                                              · rw [if_neg c118] at H
                                                have c118b0 : (t458 == t466) = false := beq_eq_false_iff_ne.mpr c118
                                                have c118b1 : (t458 != t466) = true := bne_iff_ne.mpr c118
                                                exact absurd ((Option.some.inj H).trans hr.out) Bool.false_ne_true
                                          · rw [if_neg c71] at H
                                            have c71b0 : (t441 == t450) = false := beq_eq_false_iff_ne.mpr c71
                                            have c71b1 : (t441 != t450) = true := bne_iff_ne.mpr c71
                                            exact absurd ((Option.some.inj H).trans hr.out) Bool.false_ne_true
                                      · rw [if_neg c23] at H
                                        exact absurd H (by simp)
                                    · rw [if_neg c22] at H
                                      exact absurd H (by simp)
                                  · rw [if_neg c21] at H
                                    exact absurd H (by simp)
                                · rw [if_neg c20] at H
                                  exact absurd H (by simp)
                              · rw [if_neg c19] at H
                                exact absurd H (by simp)
                            · rw [if_neg c18] at H
                              have c18b0 : decide (x10_3 < (l0.length : Int)) = false := decide_eq_false c18
                              clear c18
                              have H' := Aside0.mk H
                              clear H
                              go_wp2
                              go_roundg k3
                              case measure => have := HK1.out; have := HK2.out; have := HK3.out; omega
                              case rel => exact ⟨(wrap64 (x7_2 + 1)), (by first | rfl | (simp; done) | (simp [*]; done) | (simp; unfold wrap64; omega)), H', ⟨by have := HK1.out; have := HK2.out; have := HK3.out; omega⟩, ⟨by repeat (first | (with_reducible first | exact HB.out | apply below_alloc | apply pw_below_drewN | apply below_drew1) | exact HB.out)⟩⟩
                      · rw [if_neg c13] at H
                        have c13b0 : (t430 == t433) = false := beq_eq_false_iff_ne.mpr c13
                        have c13b1 : (t430 != t433) = true := bne_iff_ne.mpr c13
                        exact absurd ((Option.some.inj H).trans hr.out) Bool.false_ne_true
                    · rw [if_neg c10] at H
                      exact absurd H (by simp)
                  · rw [if_neg c9] at H
                    exact absurd H (by simp)
                · rw [if_neg c8] at H
                  exact absurd H (by simp)
              · rw [if_neg c7] at H
                have c7b0 : decide (x7_2 < (l1.length : Int)) = false := decide_eq_false c7
                clear c7
                have H' := Aside0.mk H
                clear H
                go_wp2
                go_roundg k2
                case measure => have := HK1.out; have := HK2.out; omega
                case rel => exact ⟨(wrap64 (x6_1 + 1)), (by first | rfl | (simp; done) | (simp [*]; done) | (simp; unfold wrap64; omega)), H', ⟨by have := HK1.out; have := HK2.out; omega⟩, ⟨by repeat (first | (with_reducible first | exact HB.out | apply below_alloc | apply pw_below_drewN | apply below_drew1) | exact HB.out)⟩⟩
        · rw [if_neg c6] at H
          have c6b0 : decide (x6_1 < (l1.length : Int)) = false := decide_eq_false c6
          clear c6
          obtain rfl := Option.some.inj H
          go_wp2
          go_ret
          exact ⟨by first | rfl | (simp [errW_none, errW_some] <;> rfl) | (simp [*, errW_none, errW_some] <;> rfl), by repeat (first | (with_reducible first | exact HB.out | apply below_alloc | apply pw_below_drewN | apply below_drew1) | exact HB.out)⟩
  · replace c4 := Bool.eq_false_iff.mpr c4
    subst c4
    have H1 : (some false) = some r := by rw [if_neg (show ¬ (false = true) by decide)] at H; exact H
    clear H
    have H := H1
    clear H1
    exact absurd ((Option.some.inj H).trans hr.out) Bool.false_ne_true

end Go.Proofs.YthhpeeckiggpaaaDoor.Pr

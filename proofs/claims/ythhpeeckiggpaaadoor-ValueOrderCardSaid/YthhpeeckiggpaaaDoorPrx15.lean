-- printed by a patched copy of the kit's print, for this seat
import Derived.Test.YthhpeeckiggpaaaDoorPrx0
import Derived.Test.YthhpeeckiggpaaaDoorPrx1
import Derived.Test.YthhpeeckiggpaaaDoorPrx2
import Derived.Test.YthhpeeckiggpaaaDoorPrx7
import Derived.Test.YthhpeeckiggpaaaDoorPrx8
import Derived.Test.YthhpeeckiggpaaaDoorPrx14
namespace Go.Proofs.YthhpeeckiggpaaaDoor.Pr
open Go.RowKit Go.Proofs.YthhpeeckiggpaaaDoorW.PrintWords Go.Proofs.YthhpeeckiggpaaaDoorW.PrintLast Go.Proofs.YthhpeeckiggpaaaDoorW.PrintMore
attribute [local go_sem] max2_int min2_int max_two min_two max_three min_three max_four min_four   -- for this text's walks alone
attribute [local go_sem high] Go.Proofs.YthhpeeckiggpaaaDoor.isSome_setCell
set_option maxRecDepth 100000
set_option linter.unusedVariables false
set_option linter.unusedSimpArgs false

attribute [local go_sem high] eqA26
/-! ### refrainlaw1_ValueOrder: function 6 -/
def refrainlaw1_ValueOrder.j0 : Nat → Bool → Int → Int → ByteArray → Bool → Int → Int → ByteArray → Bool → Option (Bool)
  | 0, _, _, _, _, _, _, _, _, _ => none
  | k + 1, x72, x384000, x384001, x384002, x384003, x385000, x385001, x385002, x385003 => if x72 = true then (some false) else ((value_Valid.f x384000 x384001 x384002 x384003).bind fun t391 => ((value_Valid.f x385000 x385001 x385002 x385003).bind fun t392 => (if t391 = true then (if t392 = true then (if x384000 = x385000 then (if x384000 = 3 then (some true) else ((refrainlaw1_ordered.f k x384000 x384001 x384002 x384003 x385000 x385001 x385002 x385003).bind fun t393 => (some t393))) else (some true)) else (some true)) else (some true))))
def refrainlaw1_ValueOrder.f (k : Nat) (a0_0 : Int) (a0_1 : Int) (a0_2 : ByteArray) (a0_3 : Bool) (a1_0 : Int) (a1_1 : Int) (a1_2 : ByteArray) (a1_3 : Bool) (a2_0 : Int) (a2_1 : Int) (a2_2 : ByteArray) (a2_3 : Bool) : Option (Bool) := (refrainlaw1_begun.f k).bind fun t386 => (if t386 = true then ((value_Compare.f k a0_0 a0_1 a0_2 a0_3 a1_0 a1_1 a1_2 a1_3).bind fun t387 => ((value_Compare.f k a1_0 a1_1 a1_2 a1_3 a0_0 a0_1 a0_2 a0_3).bind fun t388 => ((value_Compare.f k a1_0 a1_1 a1_2 a1_3 a2_0 a2_1 a2_2 a2_3).bind fun t389 => ((value_Compare.f k a0_0 a0_1 a0_2 a0_3 a2_0 a2_1 a2_2 a2_3).bind fun t390 => (if t387 < (-1) then (refrainlaw1_ValueOrder.j0 k true a0_0 a0_1 a0_2 a0_3 a1_0 a1_1 a1_2 a1_3) else (if t387 > 1 then (refrainlaw1_ValueOrder.j0 k true a0_0 a0_1 a0_2 a0_3 a1_0 a1_1 a1_2 a1_3) else (if t387 = (wrap64 (-t388)) then (if ((t387 == 0) != (a0_0 == a1_0 && (a0_1 == a1_1 && (a0_2.toList == a1_2.toList && (a0_3 == a1_3))))) = true then (refrainlaw1_ValueOrder.j0 k true a0_0 a0_1 a0_2 a0_3 a1_0 a1_1 a1_2 a1_3) else (if t387 ≤ 0 then (if t389 ≤ 0 then (if t390 > 0 then (refrainlaw1_ValueOrder.j0 k true a0_0 a0_1 a0_2 a0_3 a1_0 a1_1 a1_2 a1_3) else (if t387 ≥ 0 then (if t389 ≥ 0 then (refrainlaw1_ValueOrder.j0 k (decide (t390 < 0)) a0_0 a0_1 a0_2 a0_3 a1_0 a1_1 a1_2 a1_3) else (refrainlaw1_ValueOrder.j0 k false a0_0 a0_1 a0_2 a0_3 a1_0 a1_1 a1_2 a1_3)) else (refrainlaw1_ValueOrder.j0 k false a0_0 a0_1 a0_2 a0_3 a1_0 a1_1 a1_2 a1_3))) else (if t387 ≥ 0 then (if t389 ≥ 0 then (refrainlaw1_ValueOrder.j0 k (decide (t390 < 0)) a0_0 a0_1 a0_2 a0_3 a1_0 a1_1 a1_2 a1_3) else (refrainlaw1_ValueOrder.j0 k false a0_0 a0_1 a0_2 a0_3 a1_0 a1_1 a1_2 a1_3)) else (refrainlaw1_ValueOrder.j0 k false a0_0 a0_1 a0_2 a0_3 a1_0 a1_1 a1_2 a1_3))) else (if t387 ≥ 0 then (if t389 ≥ 0 then (refrainlaw1_ValueOrder.j0 k (decide (t390 < 0)) a0_0 a0_1 a0_2 a0_3 a1_0 a1_1 a1_2 a1_3) else (refrainlaw1_ValueOrder.j0 k false a0_0 a0_1 a0_2 a0_3 a1_0 a1_1 a1_2 a1_3)) else (refrainlaw1_ValueOrder.j0 k false a0_0 a0_1 a0_2 a0_3 a1_0 a1_1 a1_2 a1_3)))) else (refrainlaw1_ValueOrder.j0 k true a0_0 a0_1 a0_2 a0_3 a1_0 a1_1 a1_2 a1_3)))))))) else (some false))
set_option maxRecDepth 100000 in
theorem refrainlaw1_ValueOrder.j0_zero : ∀ y0 y1 y2 y3 y4 y5 y6 y7 y8, refrainlaw1_ValueOrder.j0 0 y0 y1 y2 y3 y4 y5 y6 y7 y8 = none := fun _ _ _ _ _ _ _ _ _ => rfl
set_option maxRecDepth 100000 in
theorem refrainlaw1_ValueOrder.mono_l : ∀ k, (∀ y0 y1 y2 y3 y4 y5 y6 y7 y8, LeO (refrainlaw1_ValueOrder.j0 k y0 y1 y2 y3 y4 y5 y6 y7 y8) (refrainlaw1_ValueOrder.j0 (k + 1) y0 y1 y2 y3 y4 y5 y6 y7 y8))
  | 0 => fun _ _ _ _ _ _ _ _ _ r h => by (unfold refrainlaw1_ValueOrder.j0 at h; cases h)
  | k + 1 => by
    have ih0 := refrainlaw1_ValueOrder.mono_l k
    · intro y0 y1 y2 y3 y4 y5 y6 y7 y8
      unfold refrainlaw1_ValueOrder.j0
      repeat' first
      | (with_reducible exact ih0 _ _ _ _ _ _ _ _ _)
      | (with_reducible exact refrainlaw1_begun.mono _)
      | (with_reducible exact refrainlaw1_ordered.mono _ _ _ _ _ _ _ _ _)
      | (with_reducible exact value_Compare.mono _ _ _ _ _ _ _ _ _)
      | (with_reducible exact LeO.refl _)
      | (with_reducible exact LeO.none _)
      | (with_reducible refine LeO.ite ?_ ?_)
      | (with_reducible refine LeO.bind ?_ (fun _ => ?_))
      | exact ih0 _ _ _ _ _ _ _ _ _
      | exact refrainlaw1_begun.mono _
      | exact refrainlaw1_ordered.mono _ _ _ _ _ _ _ _ _
      | exact value_Compare.mono _ _ _ _ _ _ _ _ _
      | exact LeO.none _
      | refine LeO.ite ?_ ?_
      | refine LeO.bind ?_ (fun _ => ?_)
set_option maxRecDepth 100000 in
theorem refrainlaw1_ValueOrder.mono : ∀ a0 a1 a2 a3 a4 a5 a6 a7 a8 a9 a10 a11 k, LeO (refrainlaw1_ValueOrder.f k a0 a1 a2 a3 a4 a5 a6 a7 a8 a9 a10 a11) (refrainlaw1_ValueOrder.f (k + 1) a0 a1 a2 a3 a4 a5 a6 a7 a8 a9 a10 a11) := by
  intro a0 a1 a2 a3 a4 a5 a6 a7 a8 a9 a10 a11 k
  have ih0 := refrainlaw1_ValueOrder.mono_l k
  unfold refrainlaw1_ValueOrder.f
  repeat' first
      | (with_reducible exact ih0 _ _ _ _ _ _ _ _ _)
      | (with_reducible exact refrainlaw1_begun.mono _)
      | (with_reducible exact refrainlaw1_ordered.mono _ _ _ _ _ _ _ _ _)
      | (with_reducible exact value_Compare.mono _ _ _ _ _ _ _ _ _)
      | (with_reducible exact LeO.refl _)
      | (with_reducible exact LeO.none _)
      | (with_reducible refine LeO.ite ?_ ?_)
      | (with_reducible refine LeO.bind ?_ (fun _ => ?_))
      | exact ih0 _ _ _ _ _ _ _ _ _
      | exact refrainlaw1_begun.mono _
      | exact refrainlaw1_ordered.mono _ _ _ _ _ _ _ _ _
      | exact value_Compare.mono _ _ _ _ _ _ _ _ _
      | exact LeO.none _
      | refine LeO.ite ?_ ?_
      | refine LeO.bind ?_ (fun _ => ?_)
set_option maxHeartbeats 8000000 in
set_option maxRecDepth 100000 in
theorem refrainlaw1_ValueOrder.calls (k : Nat) (a0_0 : Int) (a0_1 : Int) (a0_2 : ByteArray) (a0_3 : Bool) (a1_0 : Int) (a1_1 : Int) (a1_2 : ByteArray) (a1_3 : Bool) (a2_0 : Int) (a2_1 : Int) (a2_2 : ByteArray) (a2_3 : Bool) (r : Bool) (w : World) (HL_LErr : Aside0 (LErr w)) (HL_LG0 : Aside0 (LG0 w)) (HL_LG1 : Aside0 (LG1 w)) (HL_LSyn : Aside0 (LSyn w)) (h : refrainlaw1_ValueOrder.f k a0_0 a0_1 a0_2 a0_3 a1_0 a1_1 a1_2 a1_3 a2_0 a2_1 a2_2 a2_3 = some r) (hr : r = true) :
    Calls Tryd.prog 6 #[.agg #[.int .i64 a0_0, .int .i64 a0_1, .string a0_2, .bool a0_3], .agg #[.int .i64 a1_0, .int .i64 a1_1, .string a1_2, .bool a1_3], .agg #[.int .i64 a2_0, .int .i64 a2_1, .string a2_2, .bool a2_3]] w fun e w' => e = .returned (.bool r) ∧ Below w.heap.size w w' := by
  replace hr := Aside0.mk hr
  have hu26 := Tryd.underlying26
  have HB := Aside0.mk (Below.refl w.heap.size w)
  have H : ((refrainlaw1_begun.f k).bind fun t386 => (if t386 = true then ((value_Compare.f k a0_0 a0_1 a0_2 a0_3 a1_0 a1_1 a1_2 a1_3).bind fun t387 => ((value_Compare.f k a1_0 a1_1 a1_2 a1_3 a0_0 a0_1 a0_2 a0_3).bind fun t388 => ((value_Compare.f k a1_0 a1_1 a1_2 a1_3 a2_0 a2_1 a2_2 a2_3).bind fun t389 => ((value_Compare.f k a0_0 a0_1 a0_2 a0_3 a2_0 a2_1 a2_2 a2_3).bind fun t390 => (if t387 < (-1) then (refrainlaw1_ValueOrder.j0 k true a0_0 a0_1 a0_2 a0_3 a1_0 a1_1 a1_2 a1_3) else (if t387 > 1 then (refrainlaw1_ValueOrder.j0 k true a0_0 a0_1 a0_2 a0_3 a1_0 a1_1 a1_2 a1_3) else (if t387 = (wrap64 (-t388)) then (if ((t387 == 0) != (a0_0 == a1_0 && (a0_1 == a1_1 && (a0_2.toList == a1_2.toList && (a0_3 == a1_3))))) = true then (refrainlaw1_ValueOrder.j0 k true a0_0 a0_1 a0_2 a0_3 a1_0 a1_1 a1_2 a1_3) else (if t387 ≤ 0 then (if t389 ≤ 0 then (if t390 > 0 then (refrainlaw1_ValueOrder.j0 k true a0_0 a0_1 a0_2 a0_3 a1_0 a1_1 a1_2 a1_3) else (if t387 ≥ 0 then (if t389 ≥ 0 then (refrainlaw1_ValueOrder.j0 k (decide (t390 < 0)) a0_0 a0_1 a0_2 a0_3 a1_0 a1_1 a1_2 a1_3) else (refrainlaw1_ValueOrder.j0 k false a0_0 a0_1 a0_2 a0_3 a1_0 a1_1 a1_2 a1_3)) else (refrainlaw1_ValueOrder.j0 k false a0_0 a0_1 a0_2 a0_3 a1_0 a1_1 a1_2 a1_3))) else (if t387 ≥ 0 then (if t389 ≥ 0 then (refrainlaw1_ValueOrder.j0 k (decide (t390 < 0)) a0_0 a0_1 a0_2 a0_3 a1_0 a1_1 a1_2 a1_3) else (refrainlaw1_ValueOrder.j0 k false a0_0 a0_1 a0_2 a0_3 a1_0 a1_1 a1_2 a1_3)) else (refrainlaw1_ValueOrder.j0 k false a0_0 a0_1 a0_2 a0_3 a1_0 a1_1 a1_2 a1_3))) else (if t387 ≥ 0 then (if t389 ≥ 0 then (refrainlaw1_ValueOrder.j0 k (decide (t390 < 0)) a0_0 a0_1 a0_2 a0_3 a1_0 a1_1 a1_2 a1_3) else (refrainlaw1_ValueOrder.j0 k false a0_0 a0_1 a0_2 a0_3 a1_0 a1_1 a1_2 a1_3)) else (refrainlaw1_ValueOrder.j0 k false a0_0 a0_1 a0_2 a0_3 a1_0 a1_1 a1_2 a1_3)))) else (refrainlaw1_ValueOrder.j0 k true a0_0 a0_1 a0_2 a0_3 a1_0 a1_1 a1_2 a1_3)))))))) else (some false))) = some r := h
  clear h
  replace H := Option.bind_eq_some_iff.mp H
  obtain ⟨t386, A40, H⟩ := H
  replace H : (if t386 = true then ((value_Compare.f k a0_0 a0_1 a0_2 a0_3 a1_0 a1_1 a1_2 a1_3).bind fun t387 => ((value_Compare.f k a1_0 a1_1 a1_2 a1_3 a0_0 a0_1 a0_2 a0_3).bind fun t388 => ((value_Compare.f k a1_0 a1_1 a1_2 a1_3 a2_0 a2_1 a2_2 a2_3).bind fun t389 => ((value_Compare.f k a0_0 a0_1 a0_2 a0_3 a2_0 a2_1 a2_2 a2_3).bind fun t390 => (if t387 < (-1) then (refrainlaw1_ValueOrder.j0 k true a0_0 a0_1 a0_2 a0_3 a1_0 a1_1 a1_2 a1_3) else (if t387 > 1 then (refrainlaw1_ValueOrder.j0 k true a0_0 a0_1 a0_2 a0_3 a1_0 a1_1 a1_2 a1_3) else (if t387 = (wrap64 (-t388)) then (if ((t387 == 0) != (a0_0 == a1_0 && (a0_1 == a1_1 && (a0_2.toList == a1_2.toList && (a0_3 == a1_3))))) = true then (refrainlaw1_ValueOrder.j0 k true a0_0 a0_1 a0_2 a0_3 a1_0 a1_1 a1_2 a1_3) else (if t387 ≤ 0 then (if t389 ≤ 0 then (if t390 > 0 then (refrainlaw1_ValueOrder.j0 k true a0_0 a0_1 a0_2 a0_3 a1_0 a1_1 a1_2 a1_3) else (if t387 ≥ 0 then (if t389 ≥ 0 then (refrainlaw1_ValueOrder.j0 k (decide (t390 < 0)) a0_0 a0_1 a0_2 a0_3 a1_0 a1_1 a1_2 a1_3) else (refrainlaw1_ValueOrder.j0 k false a0_0 a0_1 a0_2 a0_3 a1_0 a1_1 a1_2 a1_3)) else (refrainlaw1_ValueOrder.j0 k false a0_0 a0_1 a0_2 a0_3 a1_0 a1_1 a1_2 a1_3))) else (if t387 ≥ 0 then (if t389 ≥ 0 then (refrainlaw1_ValueOrder.j0 k (decide (t390 < 0)) a0_0 a0_1 a0_2 a0_3 a1_0 a1_1 a1_2 a1_3) else (refrainlaw1_ValueOrder.j0 k false a0_0 a0_1 a0_2 a0_3 a1_0 a1_1 a1_2 a1_3)) else (refrainlaw1_ValueOrder.j0 k false a0_0 a0_1 a0_2 a0_3 a1_0 a1_1 a1_2 a1_3))) else (if t387 ≥ 0 then (if t389 ≥ 0 then (refrainlaw1_ValueOrder.j0 k (decide (t390 < 0)) a0_0 a0_1 a0_2 a0_3 a1_0 a1_1 a1_2 a1_3) else (refrainlaw1_ValueOrder.j0 k false a0_0 a0_1 a0_2 a0_3 a1_0 a1_1 a1_2 a1_3)) else (refrainlaw1_ValueOrder.j0 k false a0_0 a0_1 a0_2 a0_3 a1_0 a1_1 a1_2 a1_3)))) else (refrainlaw1_ValueOrder.j0 k true a0_0 a0_1 a0_2 a0_3 a1_0 a1_1 a1_2 a1_3)))))))) else (some false)) = some r := H
  have A4 := Aside0.mk A40
  clear A40
  by_cases c5 : t386 = true
  · subst c5
    have H1 : ((value_Compare.f k a0_0 a0_1 a0_2 a0_3 a1_0 a1_1 a1_2 a1_3).bind fun t387 => ((value_Compare.f k a1_0 a1_1 a1_2 a1_3 a0_0 a0_1 a0_2 a0_3).bind fun t388 => ((value_Compare.f k a1_0 a1_1 a1_2 a1_3 a2_0 a2_1 a2_2 a2_3).bind fun t389 => ((value_Compare.f k a0_0 a0_1 a0_2 a0_3 a2_0 a2_1 a2_2 a2_3).bind fun t390 => (if t387 < (-1) then (refrainlaw1_ValueOrder.j0 k true a0_0 a0_1 a0_2 a0_3 a1_0 a1_1 a1_2 a1_3) else (if t387 > 1 then (refrainlaw1_ValueOrder.j0 k true a0_0 a0_1 a0_2 a0_3 a1_0 a1_1 a1_2 a1_3) else (if t387 = (wrap64 (-t388)) then (if ((t387 == 0) != (a0_0 == a1_0 && (a0_1 == a1_1 && (a0_2.toList == a1_2.toList && (a0_3 == a1_3))))) = true then (refrainlaw1_ValueOrder.j0 k true a0_0 a0_1 a0_2 a0_3 a1_0 a1_1 a1_2 a1_3) else (if t387 ≤ 0 then (if t389 ≤ 0 then (if t390 > 0 then (refrainlaw1_ValueOrder.j0 k true a0_0 a0_1 a0_2 a0_3 a1_0 a1_1 a1_2 a1_3) else (if t387 ≥ 0 then (if t389 ≥ 0 then (refrainlaw1_ValueOrder.j0 k (decide (t390 < 0)) a0_0 a0_1 a0_2 a0_3 a1_0 a1_1 a1_2 a1_3) else (refrainlaw1_ValueOrder.j0 k false a0_0 a0_1 a0_2 a0_3 a1_0 a1_1 a1_2 a1_3)) else (refrainlaw1_ValueOrder.j0 k false a0_0 a0_1 a0_2 a0_3 a1_0 a1_1 a1_2 a1_3))) else (if t387 ≥ 0 then (if t389 ≥ 0 then (refrainlaw1_ValueOrder.j0 k (decide (t390 < 0)) a0_0 a0_1 a0_2 a0_3 a1_0 a1_1 a1_2 a1_3) else (refrainlaw1_ValueOrder.j0 k false a0_0 a0_1 a0_2 a0_3 a1_0 a1_1 a1_2 a1_3)) else (refrainlaw1_ValueOrder.j0 k false a0_0 a0_1 a0_2 a0_3 a1_0 a1_1 a1_2 a1_3))) else (if t387 ≥ 0 then (if t389 ≥ 0 then (refrainlaw1_ValueOrder.j0 k (decide (t390 < 0)) a0_0 a0_1 a0_2 a0_3 a1_0 a1_1 a1_2 a1_3) else (refrainlaw1_ValueOrder.j0 k false a0_0 a0_1 a0_2 a0_3 a1_0 a1_1 a1_2 a1_3)) else (refrainlaw1_ValueOrder.j0 k false a0_0 a0_1 a0_2 a0_3 a1_0 a1_1 a1_2 a1_3)))) else (refrainlaw1_ValueOrder.j0 k true a0_0 a0_1 a0_2 a0_3 a1_0 a1_1 a1_2 a1_3)))))))) = some r := by rw [if_pos rfl] at H; exact H
    clear H
    have H := H1
    clear H1
    replace H := Option.bind_eq_some_iff.mp H
    obtain ⟨t387, A60, H⟩ := H
    replace H : ((value_Compare.f k a1_0 a1_1 a1_2 a1_3 a0_0 a0_1 a0_2 a0_3).bind fun t388 => ((value_Compare.f k a1_0 a1_1 a1_2 a1_3 a2_0 a2_1 a2_2 a2_3).bind fun t389 => ((value_Compare.f k a0_0 a0_1 a0_2 a0_3 a2_0 a2_1 a2_2 a2_3).bind fun t390 => (if t387 < (-1) then (refrainlaw1_ValueOrder.j0 k true a0_0 a0_1 a0_2 a0_3 a1_0 a1_1 a1_2 a1_3) else (if t387 > 1 then (refrainlaw1_ValueOrder.j0 k true a0_0 a0_1 a0_2 a0_3 a1_0 a1_1 a1_2 a1_3) else (if t387 = (wrap64 (-t388)) then (if ((t387 == 0) != (a0_0 == a1_0 && (a0_1 == a1_1 && (a0_2.toList == a1_2.toList && (a0_3 == a1_3))))) = true then (refrainlaw1_ValueOrder.j0 k true a0_0 a0_1 a0_2 a0_3 a1_0 a1_1 a1_2 a1_3) else (if t387 ≤ 0 then (if t389 ≤ 0 then (if t390 > 0 then (refrainlaw1_ValueOrder.j0 k true a0_0 a0_1 a0_2 a0_3 a1_0 a1_1 a1_2 a1_3) else (if t387 ≥ 0 then (if t389 ≥ 0 then (refrainlaw1_ValueOrder.j0 k (decide (t390 < 0)) a0_0 a0_1 a0_2 a0_3 a1_0 a1_1 a1_2 a1_3) else (refrainlaw1_ValueOrder.j0 k false a0_0 a0_1 a0_2 a0_3 a1_0 a1_1 a1_2 a1_3)) else (refrainlaw1_ValueOrder.j0 k false a0_0 a0_1 a0_2 a0_3 a1_0 a1_1 a1_2 a1_3))) else (if t387 ≥ 0 then (if t389 ≥ 0 then (refrainlaw1_ValueOrder.j0 k (decide (t390 < 0)) a0_0 a0_1 a0_2 a0_3 a1_0 a1_1 a1_2 a1_3) else (refrainlaw1_ValueOrder.j0 k false a0_0 a0_1 a0_2 a0_3 a1_0 a1_1 a1_2 a1_3)) else (refrainlaw1_ValueOrder.j0 k false a0_0 a0_1 a0_2 a0_3 a1_0 a1_1 a1_2 a1_3))) else (if t387 ≥ 0 then (if t389 ≥ 0 then (refrainlaw1_ValueOrder.j0 k (decide (t390 < 0)) a0_0 a0_1 a0_2 a0_3 a1_0 a1_1 a1_2 a1_3) else (refrainlaw1_ValueOrder.j0 k false a0_0 a0_1 a0_2 a0_3 a1_0 a1_1 a1_2 a1_3)) else (refrainlaw1_ValueOrder.j0 k false a0_0 a0_1 a0_2 a0_3 a1_0 a1_1 a1_2 a1_3)))) else (refrainlaw1_ValueOrder.j0 k true a0_0 a0_1 a0_2 a0_3 a1_0 a1_1 a1_2 a1_3))))))) = some r := H
    have A6 := Aside0.mk A60
    clear A60
    replace H := Option.bind_eq_some_iff.mp H
    obtain ⟨t388, A70, H⟩ := H
    replace H : ((value_Compare.f k a1_0 a1_1 a1_2 a1_3 a2_0 a2_1 a2_2 a2_3).bind fun t389 => ((value_Compare.f k a0_0 a0_1 a0_2 a0_3 a2_0 a2_1 a2_2 a2_3).bind fun t390 => (if t387 < (-1) then (refrainlaw1_ValueOrder.j0 k true a0_0 a0_1 a0_2 a0_3 a1_0 a1_1 a1_2 a1_3) else (if t387 > 1 then (refrainlaw1_ValueOrder.j0 k true a0_0 a0_1 a0_2 a0_3 a1_0 a1_1 a1_2 a1_3) else (if t387 = (wrap64 (-t388)) then (if ((t387 == 0) != (a0_0 == a1_0 && (a0_1 == a1_1 && (a0_2.toList == a1_2.toList && (a0_3 == a1_3))))) = true then (refrainlaw1_ValueOrder.j0 k true a0_0 a0_1 a0_2 a0_3 a1_0 a1_1 a1_2 a1_3) else (if t387 ≤ 0 then (if t389 ≤ 0 then (if t390 > 0 then (refrainlaw1_ValueOrder.j0 k true a0_0 a0_1 a0_2 a0_3 a1_0 a1_1 a1_2 a1_3) else (if t387 ≥ 0 then (if t389 ≥ 0 then (refrainlaw1_ValueOrder.j0 k (decide (t390 < 0)) a0_0 a0_1 a0_2 a0_3 a1_0 a1_1 a1_2 a1_3) else (refrainlaw1_ValueOrder.j0 k false a0_0 a0_1 a0_2 a0_3 a1_0 a1_1 a1_2 a1_3)) else (refrainlaw1_ValueOrder.j0 k false a0_0 a0_1 a0_2 a0_3 a1_0 a1_1 a1_2 a1_3))) else (if t387 ≥ 0 then (if t389 ≥ 0 then (refrainlaw1_ValueOrder.j0 k (decide (t390 < 0)) a0_0 a0_1 a0_2 a0_3 a1_0 a1_1 a1_2 a1_3) else (refrainlaw1_ValueOrder.j0 k false a0_0 a0_1 a0_2 a0_3 a1_0 a1_1 a1_2 a1_3)) else (refrainlaw1_ValueOrder.j0 k false a0_0 a0_1 a0_2 a0_3 a1_0 a1_1 a1_2 a1_3))) else (if t387 ≥ 0 then (if t389 ≥ 0 then (refrainlaw1_ValueOrder.j0 k (decide (t390 < 0)) a0_0 a0_1 a0_2 a0_3 a1_0 a1_1 a1_2 a1_3) else (refrainlaw1_ValueOrder.j0 k false a0_0 a0_1 a0_2 a0_3 a1_0 a1_1 a1_2 a1_3)) else (refrainlaw1_ValueOrder.j0 k false a0_0 a0_1 a0_2 a0_3 a1_0 a1_1 a1_2 a1_3)))) else (refrainlaw1_ValueOrder.j0 k true a0_0 a0_1 a0_2 a0_3 a1_0 a1_1 a1_2 a1_3)))))) = some r := H
    have A7 := Aside0.mk A70
    clear A70
    replace H := Option.bind_eq_some_iff.mp H
    obtain ⟨t389, A80, H⟩ := H
    replace H : ((value_Compare.f k a0_0 a0_1 a0_2 a0_3 a2_0 a2_1 a2_2 a2_3).bind fun t390 => (if t387 < (-1) then (refrainlaw1_ValueOrder.j0 k true a0_0 a0_1 a0_2 a0_3 a1_0 a1_1 a1_2 a1_3) else (if t387 > 1 then (refrainlaw1_ValueOrder.j0 k true a0_0 a0_1 a0_2 a0_3 a1_0 a1_1 a1_2 a1_3) else (if t387 = (wrap64 (-t388)) then (if ((t387 == 0) != (a0_0 == a1_0 && (a0_1 == a1_1 && (a0_2.toList == a1_2.toList && (a0_3 == a1_3))))) = true then (refrainlaw1_ValueOrder.j0 k true a0_0 a0_1 a0_2 a0_3 a1_0 a1_1 a1_2 a1_3) else (if t387 ≤ 0 then (if t389 ≤ 0 then (if t390 > 0 then (refrainlaw1_ValueOrder.j0 k true a0_0 a0_1 a0_2 a0_3 a1_0 a1_1 a1_2 a1_3) else (if t387 ≥ 0 then (if t389 ≥ 0 then (refrainlaw1_ValueOrder.j0 k (decide (t390 < 0)) a0_0 a0_1 a0_2 a0_3 a1_0 a1_1 a1_2 a1_3) else (refrainlaw1_ValueOrder.j0 k false a0_0 a0_1 a0_2 a0_3 a1_0 a1_1 a1_2 a1_3)) else (refrainlaw1_ValueOrder.j0 k false a0_0 a0_1 a0_2 a0_3 a1_0 a1_1 a1_2 a1_3))) else (if t387 ≥ 0 then (if t389 ≥ 0 then (refrainlaw1_ValueOrder.j0 k (decide (t390 < 0)) a0_0 a0_1 a0_2 a0_3 a1_0 a1_1 a1_2 a1_3) else (refrainlaw1_ValueOrder.j0 k false a0_0 a0_1 a0_2 a0_3 a1_0 a1_1 a1_2 a1_3)) else (refrainlaw1_ValueOrder.j0 k false a0_0 a0_1 a0_2 a0_3 a1_0 a1_1 a1_2 a1_3))) else (if t387 ≥ 0 then (if t389 ≥ 0 then (refrainlaw1_ValueOrder.j0 k (decide (t390 < 0)) a0_0 a0_1 a0_2 a0_3 a1_0 a1_1 a1_2 a1_3) else (refrainlaw1_ValueOrder.j0 k false a0_0 a0_1 a0_2 a0_3 a1_0 a1_1 a1_2 a1_3)) else (refrainlaw1_ValueOrder.j0 k false a0_0 a0_1 a0_2 a0_3 a1_0 a1_1 a1_2 a1_3)))) else (refrainlaw1_ValueOrder.j0 k true a0_0 a0_1 a0_2 a0_3 a1_0 a1_1 a1_2 a1_3))))) = some r := H
    have A8 := Aside0.mk A80
    clear A80
    replace H := Option.bind_eq_some_iff.mp H
    obtain ⟨t390, A90, H⟩ := H
    replace H : (if t387 < (-1) then (refrainlaw1_ValueOrder.j0 k true a0_0 a0_1 a0_2 a0_3 a1_0 a1_1 a1_2 a1_3) else (if t387 > 1 then (refrainlaw1_ValueOrder.j0 k true a0_0 a0_1 a0_2 a0_3 a1_0 a1_1 a1_2 a1_3) else (if t387 = (wrap64 (-t388)) then (if ((t387 == 0) != (a0_0 == a1_0 && (a0_1 == a1_1 && (a0_2.toList == a1_2.toList && (a0_3 == a1_3))))) = true then (refrainlaw1_ValueOrder.j0 k true a0_0 a0_1 a0_2 a0_3 a1_0 a1_1 a1_2 a1_3) else (if t387 ≤ 0 then (if t389 ≤ 0 then (if t390 > 0 then (refrainlaw1_ValueOrder.j0 k true a0_0 a0_1 a0_2 a0_3 a1_0 a1_1 a1_2 a1_3) else (if t387 ≥ 0 then (if t389 ≥ 0 then (refrainlaw1_ValueOrder.j0 k (decide (t390 < 0)) a0_0 a0_1 a0_2 a0_3 a1_0 a1_1 a1_2 a1_3) else (refrainlaw1_ValueOrder.j0 k false a0_0 a0_1 a0_2 a0_3 a1_0 a1_1 a1_2 a1_3)) else (refrainlaw1_ValueOrder.j0 k false a0_0 a0_1 a0_2 a0_3 a1_0 a1_1 a1_2 a1_3))) else (if t387 ≥ 0 then (if t389 ≥ 0 then (refrainlaw1_ValueOrder.j0 k (decide (t390 < 0)) a0_0 a0_1 a0_2 a0_3 a1_0 a1_1 a1_2 a1_3) else (refrainlaw1_ValueOrder.j0 k false a0_0 a0_1 a0_2 a0_3 a1_0 a1_1 a1_2 a1_3)) else (refrainlaw1_ValueOrder.j0 k false a0_0 a0_1 a0_2 a0_3 a1_0 a1_1 a1_2 a1_3))) else (if t387 ≥ 0 then (if t389 ≥ 0 then (refrainlaw1_ValueOrder.j0 k (decide (t390 < 0)) a0_0 a0_1 a0_2 a0_3 a1_0 a1_1 a1_2 a1_3) else (refrainlaw1_ValueOrder.j0 k false a0_0 a0_1 a0_2 a0_3 a1_0 a1_1 a1_2 a1_3)) else (refrainlaw1_ValueOrder.j0 k false a0_0 a0_1 a0_2 a0_3 a1_0 a1_1 a1_2 a1_3)))) else (refrainlaw1_ValueOrder.j0 k true a0_0 a0_1 a0_2 a0_3 a1_0 a1_1 a1_2 a1_3)))) = some r := H
    have A9 := Aside0.mk A90
    clear A90
    have HC10 := Aside0.mk H
    clear H
    go_enter Tryd.func6, Tryd.ntmps6
    go_upto_region 8 with (first | ((with_reducible refine gate_dst (N := 3) rfl ?_); refine box_event ?hg (N := 3) ?hd (cs := #[.int .i64 a0_0, .int .i64 a0_1, .string a0_2, .bool a0_3]) (t := 26) ?hr ?_; (case hd => rfl); (case hg => rfl); (case hr => first | (go_simp; done) | (go_simp; rfl)); intro gb383 hg w11 hbox hb; have n0_ := Aside0.mk (below_step (by repeat (first | (with_reducible first | exact HB.out | apply below_alloc | apply pw_below_drewN | apply below_drew1) | exact HB.out)) hb); have n1_ := Aside0.mk (hbox); have n2_ := Aside0.mk ((by rw [hg]; exact (below_size (by repeat (first | (with_reducible first | exact HB.out | apply below_alloc | apply pw_below_drewN | apply below_drew1) | exact HB.out))) : w.heap.size ≤ gb383)); have n3_ := Aside0.mk ((by rw [hg]; exact (below_size (by repeat (first | (with_reducible first | exact HB.out | apply below_alloc | apply pw_below_drewN | apply below_drew1) | exact HB.out))) : w.heap.size ≤ gb383)); clear HB; have HB := n0_; have BK383 := n1_; have GW383 := n2_; have GE383 := n3_; clear n0_ n1_ n2_ n3_; clear hb hbox hg) | ((with_reducible refine gate_dst (N := 4) rfl ?_); refine box_event ?hg (N := 4) ?hd (cs := #[.int .i64 a1_0, .int .i64 a1_1, .string a1_2, .bool a1_3]) (t := 26) ?hr ?_; (case hd => rfl); (case hg => rfl); (case hr => first | (go_simp; done) | (go_simp; rfl)); intro gb384 hg w12 hbox hb; have n0_ := Aside0.mk (blk_below (g := gb383) (o := .cells #[.int .i64 a0_0, .int .i64 a0_1, .string a0_2, .bool a0_3] 26 (0, 0)) (by (with_reducible repeat (first | refine blk_drewN ?_ _ | refine blk_drew ?_ | refine blk_alloc ?_ _)); exact BK383.out) hb); have n1_ := Aside0.mk (below_step (by repeat (first | (with_reducible first | exact HB.out | apply below_alloc | apply pw_below_drewN | apply below_drew1 | refine below_set ?_ GE383.out) | exact HB.out)) hb); have n2_ := Aside0.mk (hbox); have n3_ := Aside0.mk ((by rw [hg]; exact (below_size (by repeat (first | (with_reducible first | exact HB.out | apply below_alloc | apply pw_below_drewN | apply below_drew1 | refine below_set ?_ GE383.out) | exact HB.out))) : w.heap.size ≤ gb384)); have n4_ := Aside0.mk ((by rw [hg]; exact (below_size (by repeat (first | (with_reducible first | exact HB.out | apply below_alloc | apply pw_below_drewN | apply below_drew1 | refine below_set ?_ GE383.out) | exact HB.out))) : w.heap.size ≤ gb384)); have n5_ := Aside0.mk ((by rw [hg]; exact Nat.ne_of_lt (blk_lt (g := gb383) (o := .cells #[.int .i64 a0_0, .int .i64 a0_1, .string a0_2, .bool a0_3] 26 (0, 0)) (by (with_reducible repeat (first | refine blk_drewN ?_ _ | refine blk_drew ?_ | refine blk_alloc ?_ _)); exact BK383.out)) : gb383 ≠ gb384)); have n6_ := Aside0.mk ((by rw [hg]; exact Nat.ne_of_gt (blk_lt (g := gb383) (o := .cells #[.int .i64 a0_0, .int .i64 a0_1, .string a0_2, .bool a0_3] 26 (0, 0)) (by (with_reducible repeat (first | refine blk_drewN ?_ _ | refine blk_drew ?_ | refine blk_alloc ?_ _)); exact BK383.out)) : gb384 ≠ gb383)); clear BK383; clear HB; have BK383 := n0_; have HB := n1_; have BK384 := n2_; have GW384 := n3_; have GE384 := n4_; have NB383_384 := n5_; have NB384_383 := n6_; clear n0_ n1_ n2_ n3_ n4_ n5_ n6_; clear hb hbox hg) | ((with_reducible refine gate_dst (N := 5) rfl ?_); refine box_event ?hg (N := 5) ?hd (cs := #[.int .i64 a2_0, .int .i64 a2_1, .string a2_2, .bool a2_3]) (t := 26) ?hr ?_; (case hd => rfl); (case hg => rfl); (case hr => first | (go_simp; done) | (go_simp; rfl)); intro gb385 hg w13 hbox hb; have n0_ := Aside0.mk (blk_below (g := gb383) (o := .cells #[.int .i64 a0_0, .int .i64 a0_1, .string a0_2, .bool a0_3] 26 (0, 0)) (by (with_reducible repeat (first | refine blk_drewN ?_ _ | refine blk_drew ?_ | refine blk_alloc ?_ _)); exact BK383.out) hb); have n1_ := Aside0.mk (blk_below (g := gb384) (o := .cells #[.int .i64 a1_0, .int .i64 a1_1, .string a1_2, .bool a1_3] 26 (0, 0)) (by (with_reducible repeat (first | refine blk_drewN ?_ _ | refine blk_drew ?_ | refine blk_alloc ?_ _)); exact BK384.out) hb); have n2_ := Aside0.mk (below_step (by repeat (first | (with_reducible first | exact HB.out | apply below_alloc | apply pw_below_drewN | apply below_drew1 | refine below_set ?_ GE383.out | refine below_set ?_ GE384.out) | exact HB.out)) hb); have n3_ := Aside0.mk (hbox); have n4_ := Aside0.mk ((by rw [hg]; exact (below_size (by repeat (first | (with_reducible first | exact HB.out | apply below_alloc | apply pw_below_drewN | apply below_drew1 | refine below_set ?_ GE383.out | refine below_set ?_ GE384.out) | exact HB.out))) : w.heap.size ≤ gb385)); have n5_ := Aside0.mk ((by rw [hg]; exact (below_size (by repeat (first | (with_reducible first | exact HB.out | apply below_alloc | apply pw_below_drewN | apply below_drew1 | refine below_set ?_ GE383.out | refine below_set ?_ GE384.out) | exact HB.out))) : w.heap.size ≤ gb385)); have n6_ := Aside0.mk ((by rw [hg]; exact Nat.ne_of_lt (blk_lt (g := gb383) (o := .cells #[.int .i64 a0_0, .int .i64 a0_1, .string a0_2, .bool a0_3] 26 (0, 0)) (by (with_reducible repeat (first | refine blk_drewN ?_ _ | refine blk_drew ?_ | refine blk_alloc ?_ _)); exact BK383.out)) : gb383 ≠ gb385)); have n7_ := Aside0.mk ((by rw [hg]; exact Nat.ne_of_gt (blk_lt (g := gb383) (o := .cells #[.int .i64 a0_0, .int .i64 a0_1, .string a0_2, .bool a0_3] 26 (0, 0)) (by (with_reducible repeat (first | refine blk_drewN ?_ _ | refine blk_drew ?_ | refine blk_alloc ?_ _)); exact BK383.out)) : gb385 ≠ gb383)); have n8_ := Aside0.mk ((by rw [hg]; exact Nat.ne_of_lt (blk_lt (g := gb384) (o := .cells #[.int .i64 a1_0, .int .i64 a1_1, .string a1_2, .bool a1_3] 26 (0, 0)) (by (with_reducible repeat (first | refine blk_drewN ?_ _ | refine blk_drew ?_ | refine blk_alloc ?_ _)); exact BK384.out)) : gb384 ≠ gb385)); have n9_ := Aside0.mk ((by rw [hg]; exact Nat.ne_of_gt (blk_lt (g := gb384) (o := .cells #[.int .i64 a1_0, .int .i64 a1_1, .string a1_2, .bool a1_3] 26 (0, 0)) (by (with_reducible repeat (first | refine blk_drewN ?_ _ | refine blk_drew ?_ | refine blk_alloc ?_ _)); exact BK384.out)) : gb385 ≠ gb384)); clear BK383; clear BK384; clear HB; have BK383 := n0_; have BK384 := n1_; have HB := n2_; have BK385 := n3_; have GW385 := n4_; have GE385 := n5_; have NB383_385 := n6_; have NB385_383 := n7_; have NB384_385 := n8_; have NB385_384 := n9_; clear n0_ n1_ n2_ n3_ n4_ n5_ n6_ n7_ n8_ n9_; clear hb hbox hg) | ((with_reducible refine gate_callee (f := 10) rfl ?_); refine goesL_ (some 14) rfl rfl Tryd.func10 (by kernel_rfl) rfl #[] rfl (by (try simp only [List.map_toArray, List.map_cons, List.map_nil]); first | done | rfl | (simp only [List.length_drop, List.length_take]; rfl)) ?_; (with_reducible refine (refrainlaw1_begun.calls k  true _ ?side1 ?side2 ?side3 ?side4 A4.out (by first | rfl | exact hr.out)).mono ?_); (case side1 => first | (with_reducible exact HL_LErr) | exact ⟨LErr.below HL_LErr.out (by repeat (first | (with_reducible first | exact HB.out | apply below_alloc | apply pw_below_drewN | apply below_drew1 | refine below_set ?_ GE383.out | refine below_set ?_ GE384.out | refine below_set ?_ GE385.out) | exact HB.out))⟩); (case side2 => first | (with_reducible exact HL_LG0) | exact ⟨LG0.below HL_LG0.out (by repeat (first | (with_reducible first | exact HB.out | apply below_alloc | apply pw_below_drewN | apply below_drew1 | refine below_set ?_ GE383.out | refine below_set ?_ GE384.out | refine below_set ?_ GE385.out) | exact HB.out))⟩); (case side3 => first | (with_reducible exact HL_LG1) | exact ⟨LG1.below HL_LG1.out (by repeat (first | (with_reducible first | exact HB.out | apply below_alloc | apply pw_below_drewN | apply below_drew1 | refine below_set ?_ GE383.out | refine below_set ?_ GE384.out | refine below_set ?_ GE385.out) | exact HB.out))⟩); (case side4 => first | (with_reducible exact HL_LSyn) | exact ⟨LSyn.below HL_LSyn.out (by repeat (first | (with_reducible first | exact HB.out | apply below_alloc | apply pw_below_drewN | apply below_drew1 | refine below_set ?_ GE383.out | refine below_set ?_ GE384.out | refine below_set ?_ GE385.out) | exact HB.out))⟩); rintro e w14 ⟨rfl, hb⟩; refine ⟨_, rfl, ?_⟩; have n0_ := Aside0.mk (blk_below (g := gb383) (o := .cells #[.int .i64 a0_0, .int .i64 a0_1, .string a0_2, .bool a0_3] 26 (0, 0)) (by (with_reducible repeat (first | refine blk_drewN ?_ _ | refine blk_drew ?_ | refine blk_alloc ?_ _)); exact BK383.out) hb); have n1_ := Aside0.mk (blk_below (g := gb384) (o := .cells #[.int .i64 a1_0, .int .i64 a1_1, .string a1_2, .bool a1_3] 26 (0, 0)) (by (with_reducible repeat (first | refine blk_drewN ?_ _ | refine blk_drew ?_ | refine blk_alloc ?_ _)); exact BK384.out) hb); have n2_ := Aside0.mk (blk_below (g := gb385) (o := .cells #[.int .i64 a2_0, .int .i64 a2_1, .string a2_2, .bool a2_3] 26 (0, 0)) (by (with_reducible repeat (first | refine blk_drewN ?_ _ | refine blk_drew ?_ | refine blk_alloc ?_ _)); exact BK385.out) hb); have n3_ := Aside0.mk (below_step (by repeat (first | (with_reducible first | exact HB.out | apply below_alloc | apply pw_below_drewN | apply below_drew1 | refine below_set ?_ GE383.out | refine below_set ?_ GE384.out | refine below_set ?_ GE385.out) | exact HB.out)) hb); clear BK383; clear BK384; clear BK385; clear HB; have BK383 := n0_; have BK384 := n1_; have BK385 := n2_; have HB := n3_; clear n0_ n1_ n2_ n3_; (try clear hb); (try clear hb2); (try clear hk); (try clear hi); have hnb15 := NB383_384.out; have hnc15 := NB384_383.out; have hnb16 := NB383_385.out; have hnc16 := NB385_383.out; have hcz17_0 : w14.cell? ⟨gb383, 0, none⟩ = some (.int .i64 a0_0) := (blk_cell BK383.out 0).trans rfl; have hcz17_1 : w14.cell? ⟨gb383, 1, none⟩ = some (.int .i64 a0_1) := (blk_cell BK383.out 1).trans rfl; have hcz17_2 : w14.cell? ⟨gb383, 2, none⟩ = some (.string a0_2) := (blk_cell BK383.out 2).trans rfl; have hcz17_3 : w14.cell? ⟨gb383, 3, none⟩ = some (.bool a0_3) := (blk_cell BK383.out 3).trans rfl; have hfz17_0 := blk_frozen BK383.out 0; have hfz17_1 := blk_frozen BK383.out 1; have hfz17_2 := blk_frozen BK383.out 2; have hfz17_3 := blk_frozen BK383.out 3; have hnb18 := NB384_385.out; have hnc18 := NB385_384.out; have hcz19_0 : w14.cell? ⟨gb384, 0, none⟩ = some (.int .i64 a1_0) := (blk_cell BK384.out 0).trans rfl; have hcz19_1 : w14.cell? ⟨gb384, 1, none⟩ = some (.int .i64 a1_1) := (blk_cell BK384.out 1).trans rfl; have hcz19_2 : w14.cell? ⟨gb384, 2, none⟩ = some (.string a1_2) := (blk_cell BK384.out 2).trans rfl; have hcz19_3 : w14.cell? ⟨gb384, 3, none⟩ = some (.bool a1_3) := (blk_cell BK384.out 3).trans rfl; have hfz19_0 := blk_frozen BK384.out 0; have hfz19_1 := blk_frozen BK384.out 1; have hfz19_2 := blk_frozen BK384.out 2; have hfz19_3 := blk_frozen BK384.out 3) | ((with_reducible refine gate_callee (f := 17) rfl ?_); refine goesL_ (some 19) rfl rfl Tryd.func17 (by kernel_rfl) rfl #[.agg #[.int .i64 a0_0, .int .i64 a0_1, .string a0_2, .bool a0_3], .agg #[.int .i64 a1_0, .int .i64 a1_1, .string a1_2, .bool a1_3]] rfl (by (try simp only [List.map_toArray, List.map_cons, List.map_nil]); first | done | rfl | (simp only [List.length_drop, List.length_take]; rfl)) ?_; (with_reducible refine (value_Compare.calls k a0_0 a0_1 a0_2 a0_3 a1_0 a1_1 a1_2 a1_3 t387 _ A6.out).mono ?_); rintro e w20 ⟨rfl, hb⟩; refine ⟨_, rfl, ?_⟩; have n0_ := Aside0.mk (blk_below (g := gb383) (o := .cells #[.int .i64 a0_0, .int .i64 a0_1, .string a0_2, .bool a0_3] 26 (0, 0)) (by (with_reducible repeat (first | refine blk_drewN ?_ _ | refine blk_drew ?_ | refine blk_alloc ?_ _)); exact BK383.out) hb); have n1_ := Aside0.mk (blk_below (g := gb384) (o := .cells #[.int .i64 a1_0, .int .i64 a1_1, .string a1_2, .bool a1_3] 26 (0, 0)) (by (with_reducible repeat (first | refine blk_drewN ?_ _ | refine blk_drew ?_ | refine blk_alloc ?_ _)); exact BK384.out) hb); have n2_ := Aside0.mk (blk_below (g := gb385) (o := .cells #[.int .i64 a2_0, .int .i64 a2_1, .string a2_2, .bool a2_3] 26 (0, 0)) (by (with_reducible repeat (first | refine blk_drewN ?_ _ | refine blk_drew ?_ | refine blk_alloc ?_ _)); exact BK385.out) hb); have n3_ := Aside0.mk (below_step (by repeat (first | (with_reducible first | exact HB.out | apply below_alloc | apply pw_below_drewN | apply below_drew1 | refine below_set ?_ GE383.out | refine below_set ?_ GE384.out | refine below_set ?_ GE385.out) | exact HB.out)) hb); clear BK383; clear BK384; clear BK385; clear HB; have BK383 := n0_; have BK384 := n1_; have BK385 := n2_; have HB := n3_; clear n0_ n1_ n2_ n3_; (try clear hb); (try clear hb2); (try clear hk); (try clear hi); have hcz21_0 : w20.cell? ⟨gb384, 0, none⟩ = some (.int .i64 a1_0) := (blk_cell BK384.out 0).trans rfl; have hcz21_1 : w20.cell? ⟨gb384, 1, none⟩ = some (.int .i64 a1_1) := (blk_cell BK384.out 1).trans rfl; have hcz21_2 : w20.cell? ⟨gb384, 2, none⟩ = some (.string a1_2) := (blk_cell BK384.out 2).trans rfl; have hcz21_3 : w20.cell? ⟨gb384, 3, none⟩ = some (.bool a1_3) := (blk_cell BK384.out 3).trans rfl; have hfz21_0 := blk_frozen BK384.out 0; have hfz21_1 := blk_frozen BK384.out 1; have hfz21_2 := blk_frozen BK384.out 2; have hfz21_3 := blk_frozen BK384.out 3; have hcz22_0 : w20.cell? ⟨gb383, 0, none⟩ = some (.int .i64 a0_0) := (blk_cell BK383.out 0).trans rfl; have hcz22_1 : w20.cell? ⟨gb383, 1, none⟩ = some (.int .i64 a0_1) := (blk_cell BK383.out 1).trans rfl; have hcz22_2 : w20.cell? ⟨gb383, 2, none⟩ = some (.string a0_2) := (blk_cell BK383.out 2).trans rfl; have hcz22_3 : w20.cell? ⟨gb383, 3, none⟩ = some (.bool a0_3) := (blk_cell BK383.out 3).trans rfl; have hfz22_0 := blk_frozen BK383.out 0; have hfz22_1 := blk_frozen BK383.out 1; have hfz22_2 := blk_frozen BK383.out 2; have hfz22_3 := blk_frozen BK383.out 3) | ((with_reducible refine gate_callee (f := 17) rfl ?_); refine goesL_ (some 22) rfl rfl Tryd.func17 (by kernel_rfl) rfl #[.agg #[.int .i64 a1_0, .int .i64 a1_1, .string a1_2, .bool a1_3], .agg #[.int .i64 a0_0, .int .i64 a0_1, .string a0_2, .bool a0_3]] rfl (by (try simp only [List.map_toArray, List.map_cons, List.map_nil]); first | done | rfl | (simp only [List.length_drop, List.length_take]; rfl)) ?_; (with_reducible refine (value_Compare.calls k a1_0 a1_1 a1_2 a1_3 a0_0 a0_1 a0_2 a0_3 t388 _ A7.out).mono ?_); rintro e w23 ⟨rfl, hb⟩; refine ⟨_, rfl, ?_⟩; have n0_ := Aside0.mk (blk_below (g := gb383) (o := .cells #[.int .i64 a0_0, .int .i64 a0_1, .string a0_2, .bool a0_3] 26 (0, 0)) (by (with_reducible repeat (first | refine blk_drewN ?_ _ | refine blk_drew ?_ | refine blk_alloc ?_ _)); exact BK383.out) hb); have n1_ := Aside0.mk (blk_below (g := gb384) (o := .cells #[.int .i64 a1_0, .int .i64 a1_1, .string a1_2, .bool a1_3] 26 (0, 0)) (by (with_reducible repeat (first | refine blk_drewN ?_ _ | refine blk_drew ?_ | refine blk_alloc ?_ _)); exact BK384.out) hb); have n2_ := Aside0.mk (blk_below (g := gb385) (o := .cells #[.int .i64 a2_0, .int .i64 a2_1, .string a2_2, .bool a2_3] 26 (0, 0)) (by (with_reducible repeat (first | refine blk_drewN ?_ _ | refine blk_drew ?_ | refine blk_alloc ?_ _)); exact BK385.out) hb); have n3_ := Aside0.mk (below_step (by repeat (first | (with_reducible first | exact HB.out | apply below_alloc | apply pw_below_drewN | apply below_drew1 | refine below_set ?_ GE383.out | refine below_set ?_ GE384.out | refine below_set ?_ GE385.out) | exact HB.out)) hb); clear BK383; clear BK384; clear BK385; clear HB; have BK383 := n0_; have BK384 := n1_; have BK385 := n2_; have HB := n3_; clear n0_ n1_ n2_ n3_; (try clear hb); (try clear hb2); (try clear hk); (try clear hi); have hcz24_0 : w23.cell? ⟨gb384, 0, none⟩ = some (.int .i64 a1_0) := (blk_cell BK384.out 0).trans rfl; have hcz24_1 : w23.cell? ⟨gb384, 1, none⟩ = some (.int .i64 a1_1) := (blk_cell BK384.out 1).trans rfl; have hcz24_2 : w23.cell? ⟨gb384, 2, none⟩ = some (.string a1_2) := (blk_cell BK384.out 2).trans rfl; have hcz24_3 : w23.cell? ⟨gb384, 3, none⟩ = some (.bool a1_3) := (blk_cell BK384.out 3).trans rfl; have hfz24_0 := blk_frozen BK384.out 0; have hfz24_1 := blk_frozen BK384.out 1; have hfz24_2 := blk_frozen BK384.out 2; have hfz24_3 := blk_frozen BK384.out 3; have hcz25_0 : w23.cell? ⟨gb385, 0, none⟩ = some (.int .i64 a2_0) := (blk_cell BK385.out 0).trans rfl; have hcz25_1 : w23.cell? ⟨gb385, 1, none⟩ = some (.int .i64 a2_1) := (blk_cell BK385.out 1).trans rfl; have hcz25_2 : w23.cell? ⟨gb385, 2, none⟩ = some (.string a2_2) := (blk_cell BK385.out 2).trans rfl; have hcz25_3 : w23.cell? ⟨gb385, 3, none⟩ = some (.bool a2_3) := (blk_cell BK385.out 3).trans rfl; have hfz25_0 := blk_frozen BK385.out 0; have hfz25_1 := blk_frozen BK385.out 1; have hfz25_2 := blk_frozen BK385.out 2; have hfz25_3 := blk_frozen BK385.out 3) | ((with_reducible refine gate_callee (f := 17) rfl ?_); refine goesL_ (some 25) rfl rfl Tryd.func17 (by kernel_rfl) rfl #[.agg #[.int .i64 a1_0, .int .i64 a1_1, .string a1_2, .bool a1_3], .agg #[.int .i64 a2_0, .int .i64 a2_1, .string a2_2, .bool a2_3]] rfl (by (try simp only [List.map_toArray, List.map_cons, List.map_nil]); first | done | rfl | (simp only [List.length_drop, List.length_take]; rfl)) ?_; (with_reducible refine (value_Compare.calls k a1_0 a1_1 a1_2 a1_3 a2_0 a2_1 a2_2 a2_3 t389 _ A8.out).mono ?_); rintro e w26 ⟨rfl, hb⟩; refine ⟨_, rfl, ?_⟩; have n0_ := Aside0.mk (blk_below (g := gb383) (o := .cells #[.int .i64 a0_0, .int .i64 a0_1, .string a0_2, .bool a0_3] 26 (0, 0)) (by (with_reducible repeat (first | refine blk_drewN ?_ _ | refine blk_drew ?_ | refine blk_alloc ?_ _)); exact BK383.out) hb); have n1_ := Aside0.mk (blk_below (g := gb384) (o := .cells #[.int .i64 a1_0, .int .i64 a1_1, .string a1_2, .bool a1_3] 26 (0, 0)) (by (with_reducible repeat (first | refine blk_drewN ?_ _ | refine blk_drew ?_ | refine blk_alloc ?_ _)); exact BK384.out) hb); have n2_ := Aside0.mk (blk_below (g := gb385) (o := .cells #[.int .i64 a2_0, .int .i64 a2_1, .string a2_2, .bool a2_3] 26 (0, 0)) (by (with_reducible repeat (first | refine blk_drewN ?_ _ | refine blk_drew ?_ | refine blk_alloc ?_ _)); exact BK385.out) hb); have n3_ := Aside0.mk (below_step (by repeat (first | (with_reducible first | exact HB.out | apply below_alloc | apply pw_below_drewN | apply below_drew1 | refine below_set ?_ GE383.out | refine below_set ?_ GE384.out | refine below_set ?_ GE385.out) | exact HB.out)) hb); clear BK383; clear BK384; clear BK385; clear HB; have BK383 := n0_; have BK384 := n1_; have BK385 := n2_; have HB := n3_; clear n0_ n1_ n2_ n3_; (try clear hb); (try clear hb2); (try clear hk); (try clear hi); have hcz27_0 : w26.cell? ⟨gb383, 0, none⟩ = some (.int .i64 a0_0) := (blk_cell BK383.out 0).trans rfl; have hcz27_1 : w26.cell? ⟨gb383, 1, none⟩ = some (.int .i64 a0_1) := (blk_cell BK383.out 1).trans rfl; have hcz27_2 : w26.cell? ⟨gb383, 2, none⟩ = some (.string a0_2) := (blk_cell BK383.out 2).trans rfl; have hcz27_3 : w26.cell? ⟨gb383, 3, none⟩ = some (.bool a0_3) := (blk_cell BK383.out 3).trans rfl; have hfz27_0 := blk_frozen BK383.out 0; have hfz27_1 := blk_frozen BK383.out 1; have hfz27_2 := blk_frozen BK383.out 2; have hfz27_3 := blk_frozen BK383.out 3; have hcz28_0 : w26.cell? ⟨gb385, 0, none⟩ = some (.int .i64 a2_0) := (blk_cell BK385.out 0).trans rfl; have hcz28_1 : w26.cell? ⟨gb385, 1, none⟩ = some (.int .i64 a2_1) := (blk_cell BK385.out 1).trans rfl; have hcz28_2 : w26.cell? ⟨gb385, 2, none⟩ = some (.string a2_2) := (blk_cell BK385.out 2).trans rfl; have hcz28_3 : w26.cell? ⟨gb385, 3, none⟩ = some (.bool a2_3) := (blk_cell BK385.out 3).trans rfl; have hfz28_0 := blk_frozen BK385.out 0; have hfz28_1 := blk_frozen BK385.out 1; have hfz28_2 := blk_frozen BK385.out 2; have hfz28_3 := blk_frozen BK385.out 3) | ((with_reducible refine gate_callee (f := 17) rfl ?_); refine goesL_ (some 28) rfl rfl Tryd.func17 (by kernel_rfl) rfl #[.agg #[.int .i64 a0_0, .int .i64 a0_1, .string a0_2, .bool a0_3], .agg #[.int .i64 a2_0, .int .i64 a2_1, .string a2_2, .bool a2_3]] rfl (by (try simp only [List.map_toArray, List.map_cons, List.map_nil]); first | done | rfl | (simp only [List.length_drop, List.length_take]; rfl)) ?_; (with_reducible refine (value_Compare.calls k a0_0 a0_1 a0_2 a0_3 a2_0 a2_1 a2_2 a2_3 t390 _ A9.out).mono ?_); rintro e w29 ⟨rfl, hb⟩; refine ⟨_, rfl, ?_⟩; have n0_ := Aside0.mk (blk_below (g := gb383) (o := .cells #[.int .i64 a0_0, .int .i64 a0_1, .string a0_2, .bool a0_3] 26 (0, 0)) (by (with_reducible repeat (first | refine blk_drewN ?_ _ | refine blk_drew ?_ | refine blk_alloc ?_ _)); exact BK383.out) hb); have n1_ := Aside0.mk (blk_below (g := gb384) (o := .cells #[.int .i64 a1_0, .int .i64 a1_1, .string a1_2, .bool a1_3] 26 (0, 0)) (by (with_reducible repeat (first | refine blk_drewN ?_ _ | refine blk_drew ?_ | refine blk_alloc ?_ _)); exact BK384.out) hb); have n2_ := Aside0.mk (blk_below (g := gb385) (o := .cells #[.int .i64 a2_0, .int .i64 a2_1, .string a2_2, .bool a2_3] 26 (0, 0)) (by (with_reducible repeat (first | refine blk_drewN ?_ _ | refine blk_drew ?_ | refine blk_alloc ?_ _)); exact BK385.out) hb); have n3_ := Aside0.mk (below_step (by repeat (first | (with_reducible first | exact HB.out | apply below_alloc | apply pw_below_drewN | apply below_drew1 | refine below_set ?_ GE383.out | refine below_set ?_ GE384.out | refine below_set ?_ GE385.out) | exact HB.out)) hb); clear BK383; clear BK384; clear BK385; clear HB; have BK383 := n0_; have BK384 := n1_; have BK385 := n2_; have HB := n3_; clear n0_ n1_ n2_ n3_; (try clear hb); (try clear hb2); (try clear hk); (try clear hi)))
    (try simp only [Act.put, List.setIfInBounds_toArray, List.set_cons_zero, List.set_cons_succ])
    go_cut [72] (fun v72 wc => ∃ (kq : Nat) (x72_9 : Bool), v72 = .bool x72_9 ∧ Aside0 (refrainlaw1_ValueOrder.j0 kq x72_9 a0_0 a0_1 a0_2 a0_3 a1_0 a1_1 a1_2 a1_3 = some r) ∧ Aside0 (kq ≤ k) ∧ Aside0 (wc.heap[gb383]? = some (.cells #[.int .i64 a0_0, .int .i64 a0_1, .string a0_2, .bool a0_3] 26 (0, 0))) ∧ Aside0 (wc.heap[gb384]? = some (.cells #[.int .i64 a1_0, .int .i64 a1_1, .string a1_2, .bool a1_3] 26 (0, 0))) ∧ Aside0 (wc.heap[gb385]? = some (.cells #[.int .i64 a2_0, .int .i64 a2_1, .string a2_2, .bool a2_3] 26 (0, 0))) ∧ Aside0 (Below w.heap.size w wc))
    case first =>
      have H := HC10.out
      clear HC10
      by_cases c30 : t387 < (-1)
      · rw [if_pos c30] at H
        have c30b0 : decide (t387 < (-1)) = true := decide_eq_true c30
        clear c30
        (first | rw [c30b0] | (simp only [i64_w, i32_w, IntKind.wrap_u8, IntKind.wrap_u16, IntKind.wrap_u32]; rw [c30b0]) | skip)
        have H' := Aside0.mk H
        clear H
        go_wp2
        go_meet
        case rel => exact ⟨_, (true), (by first | rfl | (simp; done) | (simp [*]; done) | (simp; unfold wrap64; omega)), H', ⟨by first | omega | exact Nat.le_refl _⟩, ⟨by (with_reducible repeat (first | refine blk_drewN ?_ _ | refine blk_drew ?_ | refine blk_alloc ?_ _)); exact BK383.out⟩, ⟨by (with_reducible repeat (first | refine blk_drewN ?_ _ | refine blk_drew ?_ | refine blk_alloc ?_ _)); exact BK384.out⟩, ⟨by (with_reducible repeat (first | refine blk_drewN ?_ _ | refine blk_drew ?_ | refine blk_alloc ?_ _)); exact BK385.out⟩, ⟨by repeat (first | (with_reducible first | exact HB.out | apply below_alloc | apply pw_below_drewN | apply below_drew1 | refine below_set ?_ GE383.out | refine below_set ?_ GE384.out | refine below_set ?_ GE385.out) | exact HB.out)⟩⟩
      · rw [if_neg c30] at H
        have c30b0 : decide (t387 < (-1)) = false := decide_eq_false c30
        clear c30
        (first | rw [c30b0] | (simp only [i64_w, i32_w, IntKind.wrap_u8, IntKind.wrap_u16, IntKind.wrap_u32]; rw [c30b0]) | skip)
        by_cases c31 : t387 > 1
        · rw [if_pos c31] at H
          have c31b0 : decide (1 < t387) = true := decide_eq_true c31
          clear c31
          have H' := Aside0.mk H
          clear H
          go_wp2
          go_meet
          case rel => exact ⟨_, (true), (by first | rfl | (simp; done) | (simp [*]; done) | (simp; unfold wrap64; omega)), H', ⟨by first | omega | exact Nat.le_refl _⟩, ⟨by (with_reducible repeat (first | refine blk_drewN ?_ _ | refine blk_drew ?_ | refine blk_alloc ?_ _)); exact BK383.out⟩, ⟨by (with_reducible repeat (first | refine blk_drewN ?_ _ | refine blk_drew ?_ | refine blk_alloc ?_ _)); exact BK384.out⟩, ⟨by (with_reducible repeat (first | refine blk_drewN ?_ _ | refine blk_drew ?_ | refine blk_alloc ?_ _)); exact BK385.out⟩, ⟨by repeat (first | (with_reducible first | exact HB.out | apply below_alloc | apply pw_below_drewN | apply below_drew1 | refine below_set ?_ GE383.out | refine below_set ?_ GE384.out | refine below_set ?_ GE385.out) | exact HB.out)⟩⟩
        · rw [if_neg c31] at H
          have c31b0 : decide (1 < t387) = false := decide_eq_false c31
          clear c31
          by_cases c32 : t387 = (wrap64 (-t388))
          · rw [if_pos c32] at H
            have c32b0 : (t387 == (wrap64 (-t388))) = true := beq_iff_eq.mpr c32
            have c32b1 : (t387 != (wrap64 (-t388))) = false := bne_eq_false_iff_eq.mpr c32
            clear c32
            by_cases c33 : ((t387 == 0) != (a0_0 == a1_0 && (a0_1 == a1_1 && (a0_2.toList == a1_2.toList && (a0_3 == a1_3))))) = true
            · rw [if_pos c33] at H
              have c33b0 : ((t387 == 0) != (a0_0 == a1_0 && (a0_1 == a1_1 && (a0_2.toList == a1_2.toList && (a0_3 == a1_3))))) = true := c33
              (try (have c33b5 := c33; simp only [Bool.and_eq_true, beq_iff_eq, Bool.not_eq_true', Bool.not_eq_true, bne_iff_ne, decide_eq_true_eq] at c33b5; replace c33b5 := Aside0.mk c33b5))
              (try (have c33b1 : decide ((t387 == 0) = (a0_0 == a1_0 && (a0_1 == a1_1 && (a0_2.toList == a1_2.toList && (a0_3 == a1_3))))) = false := by simpa using c33))
              (try (have c33b2 : ((t387 == 0) == (a0_0 == a1_0 && (a0_1 == a1_1 && (a0_2.toList == a1_2.toList && (a0_3 == a1_3))))) = false := by simpa using c33))
              (try (have c33b3 : ¬ ((t387 == 0) = (a0_0 == a1_0 && (a0_1 == a1_1 && (a0_2.toList == a1_2.toList && (a0_3 == a1_3))))) := by simpa using c33))
              clear c33
              have H' := Aside0.mk H
              clear H
              have hnb34 := NB383_384.out
              have hnc34 := NB384_383.out
              have hnb35 := NB383_385.out
              have hnc35 := NB385_383.out
              have hcz36_0 : w29.cell? ⟨gb383, 0, none⟩ = some (.int .i64 a0_0) := (blk_cell BK383.out 0).trans rfl
              have hcz36_1 : w29.cell? ⟨gb383, 1, none⟩ = some (.int .i64 a0_1) := (blk_cell BK383.out 1).trans rfl
              have hcz36_2 : w29.cell? ⟨gb383, 2, none⟩ = some (.string a0_2) := (blk_cell BK383.out 2).trans rfl
              have hcz36_3 : w29.cell? ⟨gb383, 3, none⟩ = some (.bool a0_3) := (blk_cell BK383.out 3).trans rfl
              have hfz36_0 := blk_frozen BK383.out 0
              have hfz36_1 := blk_frozen BK383.out 1
              have hfz36_2 := blk_frozen BK383.out 2
              have hfz36_3 := blk_frozen BK383.out 3
              have hnb37 := NB384_385.out
              have hnc37 := NB385_384.out
              have hcz38_0 : w29.cell? ⟨gb384, 0, none⟩ = some (.int .i64 a1_0) := (blk_cell BK384.out 0).trans rfl
              have hcz38_1 : w29.cell? ⟨gb384, 1, none⟩ = some (.int .i64 a1_1) := (blk_cell BK384.out 1).trans rfl
              have hcz38_2 : w29.cell? ⟨gb384, 2, none⟩ = some (.string a1_2) := (blk_cell BK384.out 2).trans rfl
              have hcz38_3 : w29.cell? ⟨gb384, 3, none⟩ = some (.bool a1_3) := (blk_cell BK384.out 3).trans rfl
              have hfz38_0 := blk_frozen BK384.out 0
              have hfz38_1 := blk_frozen BK384.out 1
              have hfz38_2 := blk_frozen BK384.out 2
              have hfz38_3 := blk_frozen BK384.out 3
              go_wp2
              go_meet
              case rel => exact ⟨_, (true), (by first | rfl | (simp; done) | (simp [*]; done) | (simp; unfold wrap64; omega)), H', ⟨by first | omega | exact Nat.le_refl _⟩, ⟨by (with_reducible repeat (first | refine blk_drewN ?_ _ | refine blk_drew ?_ | refine blk_alloc ?_ _)); exact BK383.out⟩, ⟨by (with_reducible repeat (first | refine blk_drewN ?_ _ | refine blk_drew ?_ | refine blk_alloc ?_ _)); exact BK384.out⟩, ⟨by (with_reducible repeat (first | refine blk_drewN ?_ _ | refine blk_drew ?_ | refine blk_alloc ?_ _)); exact BK385.out⟩, ⟨by repeat (first | (with_reducible first | exact HB.out | apply below_alloc | apply pw_below_drewN | apply below_drew1 | refine below_set ?_ GE383.out | refine below_set ?_ GE384.out | refine below_set ?_ GE385.out) | exact HB.out)⟩⟩
            · rw [if_neg c33] at H
              have c33b0 : ((t387 == 0) != (a0_0 == a1_0 && (a0_1 == a1_1 && (a0_2.toList == a1_2.toList && (a0_3 == a1_3))))) = false := by simpa using c33
              (try (have c33b5 := c33; simp only [Bool.and_eq_true, beq_iff_eq, Bool.not_eq_true', Bool.not_eq_true, bne_iff_ne, decide_eq_true_eq] at c33b5; replace c33b5 := Aside0.mk c33b5))
              (try (have c33b1 : decide ((t387 == 0) = (a0_0 == a1_0 && (a0_1 == a1_1 && (a0_2.toList == a1_2.toList && (a0_3 == a1_3))))) = true := by simpa using c33))
              (try (have c33b2 : ((t387 == 0) == (a0_0 == a1_0 && (a0_1 == a1_1 && (a0_2.toList == a1_2.toList && (a0_3 == a1_3))))) = true := by simpa using c33))
              clear c33
              by_cases c39 : t387 ≤ 0
              · rw [if_pos c39] at H
                have c39b0 : decide (t387 ≤ 0) = true := decide_eq_true c39
                clear c39
                by_cases c40 : t389 ≤ 0
                · rw [if_pos c40] at H
                  have c40b0 : decide (t389 ≤ 0) = true := decide_eq_true c40
                  clear c40
                  by_cases c41 : t390 > 0
                  · rw [if_pos c41] at H
                    have c41b0 : decide (0 < t390) = true := decide_eq_true c41
                    clear c41
                    have H' := Aside0.mk H
                    clear H
                    have hnb42 := NB383_384.out
                    have hnc42 := NB384_383.out
                    have hnb43 := NB383_385.out
                    have hnc43 := NB385_383.out
                    have hcz44_0 : w29.cell? ⟨gb383, 0, none⟩ = some (.int .i64 a0_0) := (blk_cell BK383.out 0).trans rfl
                    have hcz44_1 : w29.cell? ⟨gb383, 1, none⟩ = some (.int .i64 a0_1) := (blk_cell BK383.out 1).trans rfl
                    have hcz44_2 : w29.cell? ⟨gb383, 2, none⟩ = some (.string a0_2) := (blk_cell BK383.out 2).trans rfl
                    have hcz44_3 : w29.cell? ⟨gb383, 3, none⟩ = some (.bool a0_3) := (blk_cell BK383.out 3).trans rfl
                    have hfz44_0 := blk_frozen BK383.out 0
                    have hfz44_1 := blk_frozen BK383.out 1
                    have hfz44_2 := blk_frozen BK383.out 2
                    have hfz44_3 := blk_frozen BK383.out 3
                    have hnb45 := NB384_385.out
                    have hnc45 := NB385_384.out
                    have hcz46_0 : w29.cell? ⟨gb384, 0, none⟩ = some (.int .i64 a1_0) := (blk_cell BK384.out 0).trans rfl
                    have hcz46_1 : w29.cell? ⟨gb384, 1, none⟩ = some (.int .i64 a1_1) := (blk_cell BK384.out 1).trans rfl
                    have hcz46_2 : w29.cell? ⟨gb384, 2, none⟩ = some (.string a1_2) := (blk_cell BK384.out 2).trans rfl
                    have hcz46_3 : w29.cell? ⟨gb384, 3, none⟩ = some (.bool a1_3) := (blk_cell BK384.out 3).trans rfl
                    have hfz46_0 := blk_frozen BK384.out 0
                    have hfz46_1 := blk_frozen BK384.out 1
                    have hfz46_2 := blk_frozen BK384.out 2
                    have hfz46_3 := blk_frozen BK384.out 3
                    go_wp2
                    go_meet
                    case rel => exact ⟨_, (true), (by first | rfl | (simp; done) | (simp [*]; done) | (simp; unfold wrap64; omega)), H', ⟨by first | omega | exact Nat.le_refl _⟩, ⟨by (with_reducible repeat (first | refine blk_drewN ?_ _ | refine blk_drew ?_ | refine blk_alloc ?_ _)); exact BK383.out⟩, ⟨by (with_reducible repeat (first | refine blk_drewN ?_ _ | refine blk_drew ?_ | refine blk_alloc ?_ _)); exact BK384.out⟩, ⟨by (with_reducible repeat (first | refine blk_drewN ?_ _ | refine blk_drew ?_ | refine blk_alloc ?_ _)); exact BK385.out⟩, ⟨by repeat (first | (with_reducible first | exact HB.out | apply below_alloc | apply pw_below_drewN | apply below_drew1 | refine below_set ?_ GE383.out | refine below_set ?_ GE384.out | refine below_set ?_ GE385.out) | exact HB.out)⟩⟩
                  · rw [if_neg c41] at H
                    have c41b0 : decide (0 < t390) = false := decide_eq_false c41
                    clear c41
                    by_cases c47 : t387 ≥ 0
                    · rw [if_pos c47] at H
                      have c47b0 : decide (0 ≤ t387) = true := decide_eq_true c47
                      clear c47
                      by_cases c48 : t389 ≥ 0
                      · rw [if_pos c48] at H
                        have c48b0 : decide (0 ≤ t389) = true := decide_eq_true c48
                        clear c48
                        have H' := Aside0.mk H
                        clear H
                        have hnb49 := NB383_384.out
                        have hnc49 := NB384_383.out
                        have hnb50 := NB383_385.out
                        have hnc50 := NB385_383.out
                        have hcz51_0 : w29.cell? ⟨gb383, 0, none⟩ = some (.int .i64 a0_0) := (blk_cell BK383.out 0).trans rfl
                        have hcz51_1 : w29.cell? ⟨gb383, 1, none⟩ = some (.int .i64 a0_1) := (blk_cell BK383.out 1).trans rfl
                        have hcz51_2 : w29.cell? ⟨gb383, 2, none⟩ = some (.string a0_2) := (blk_cell BK383.out 2).trans rfl
                        have hcz51_3 : w29.cell? ⟨gb383, 3, none⟩ = some (.bool a0_3) := (blk_cell BK383.out 3).trans rfl
                        have hfz51_0 := blk_frozen BK383.out 0
                        have hfz51_1 := blk_frozen BK383.out 1
                        have hfz51_2 := blk_frozen BK383.out 2
                        have hfz51_3 := blk_frozen BK383.out 3
                        have hnb52 := NB384_385.out
                        have hnc52 := NB385_384.out
                        have hcz53_0 : w29.cell? ⟨gb384, 0, none⟩ = some (.int .i64 a1_0) := (blk_cell BK384.out 0).trans rfl
                        have hcz53_1 : w29.cell? ⟨gb384, 1, none⟩ = some (.int .i64 a1_1) := (blk_cell BK384.out 1).trans rfl
                        have hcz53_2 : w29.cell? ⟨gb384, 2, none⟩ = some (.string a1_2) := (blk_cell BK384.out 2).trans rfl
                        have hcz53_3 : w29.cell? ⟨gb384, 3, none⟩ = some (.bool a1_3) := (blk_cell BK384.out 3).trans rfl
                        have hfz53_0 := blk_frozen BK384.out 0
                        have hfz53_1 := blk_frozen BK384.out 1
                        have hfz53_2 := blk_frozen BK384.out 2
                        have hfz53_3 := blk_frozen BK384.out 3
                        go_wp2
                        go_meet
                        case rel => exact ⟨_, (decide (t390 < 0)), (by first | rfl | (simp; done) | (simp [*]; done) | (simp; unfold wrap64; omega)), H', ⟨by first | omega | exact Nat.le_refl _⟩, ⟨by (with_reducible repeat (first | refine blk_drewN ?_ _ | refine blk_drew ?_ | refine blk_alloc ?_ _)); exact BK383.out⟩, ⟨by (with_reducible repeat (first | refine blk_drewN ?_ _ | refine blk_drew ?_ | refine blk_alloc ?_ _)); exact BK384.out⟩, ⟨by (with_reducible repeat (first | refine blk_drewN ?_ _ | refine blk_drew ?_ | refine blk_alloc ?_ _)); exact BK385.out⟩, ⟨by repeat (first | (with_reducible first | exact HB.out | apply below_alloc | apply pw_below_drewN | apply below_drew1 | refine below_set ?_ GE383.out | refine below_set ?_ GE384.out | refine below_set ?_ GE385.out) | exact HB.out)⟩⟩
                      · rw [if_neg c48] at H
                        have c48b0 : decide (0 ≤ t389) = false := decide_eq_false c48
                        clear c48
                        have H' := Aside0.mk H
                        clear H
                        have hnb54 := NB383_384.out
                        have hnc54 := NB384_383.out
                        have hnb55 := NB383_385.out
                        have hnc55 := NB385_383.out
                        have hcz56_0 : w29.cell? ⟨gb383, 0, none⟩ = some (.int .i64 a0_0) := (blk_cell BK383.out 0).trans rfl
                        have hcz56_1 : w29.cell? ⟨gb383, 1, none⟩ = some (.int .i64 a0_1) := (blk_cell BK383.out 1).trans rfl
                        have hcz56_2 : w29.cell? ⟨gb383, 2, none⟩ = some (.string a0_2) := (blk_cell BK383.out 2).trans rfl
                        have hcz56_3 : w29.cell? ⟨gb383, 3, none⟩ = some (.bool a0_3) := (blk_cell BK383.out 3).trans rfl
                        have hfz56_0 := blk_frozen BK383.out 0
                        have hfz56_1 := blk_frozen BK383.out 1
                        have hfz56_2 := blk_frozen BK383.out 2
                        have hfz56_3 := blk_frozen BK383.out 3
                        have hnb57 := NB384_385.out
                        have hnc57 := NB385_384.out
                        have hcz58_0 : w29.cell? ⟨gb384, 0, none⟩ = some (.int .i64 a1_0) := (blk_cell BK384.out 0).trans rfl
                        have hcz58_1 : w29.cell? ⟨gb384, 1, none⟩ = some (.int .i64 a1_1) := (blk_cell BK384.out 1).trans rfl
                        have hcz58_2 : w29.cell? ⟨gb384, 2, none⟩ = some (.string a1_2) := (blk_cell BK384.out 2).trans rfl
                        have hcz58_3 : w29.cell? ⟨gb384, 3, none⟩ = some (.bool a1_3) := (blk_cell BK384.out 3).trans rfl
                        have hfz58_0 := blk_frozen BK384.out 0
                        have hfz58_1 := blk_frozen BK384.out 1
                        have hfz58_2 := blk_frozen BK384.out 2
                        have hfz58_3 := blk_frozen BK384.out 3
                        go_wp2
                        go_meet
                        case rel => exact ⟨_, (false), (by first | rfl | (simp; done) | (simp [*]; done) | (simp; unfold wrap64; omega)), H', ⟨by first | omega | exact Nat.le_refl _⟩, ⟨by (with_reducible repeat (first | refine blk_drewN ?_ _ | refine blk_drew ?_ | refine blk_alloc ?_ _)); exact BK383.out⟩, ⟨by (with_reducible repeat (first | refine blk_drewN ?_ _ | refine blk_drew ?_ | refine blk_alloc ?_ _)); exact BK384.out⟩, ⟨by (with_reducible repeat (first | refine blk_drewN ?_ _ | refine blk_drew ?_ | refine blk_alloc ?_ _)); exact BK385.out⟩, ⟨by repeat (first | (with_reducible first | exact HB.out | apply below_alloc | apply pw_below_drewN | apply below_drew1 | refine below_set ?_ GE383.out | refine below_set ?_ GE384.out | refine below_set ?_ GE385.out) | exact HB.out)⟩⟩
                    · rw [if_neg c47] at H
                      have c47b0 : decide (0 ≤ t387) = false := decide_eq_false c47
                      clear c47
                      have H' := Aside0.mk H
                      clear H
                      have hnb59 := NB383_384.out
                      have hnc59 := NB384_383.out
                      have hnb60 := NB383_385.out
                      have hnc60 := NB385_383.out
                      have hcz61_0 : w29.cell? ⟨gb383, 0, none⟩ = some (.int .i64 a0_0) := (blk_cell BK383.out 0).trans rfl
                      have hcz61_1 : w29.cell? ⟨gb383, 1, none⟩ = some (.int .i64 a0_1) := (blk_cell BK383.out 1).trans rfl
                      have hcz61_2 : w29.cell? ⟨gb383, 2, none⟩ = some (.string a0_2) := (blk_cell BK383.out 2).trans rfl
                      have hcz61_3 : w29.cell? ⟨gb383, 3, none⟩ = some (.bool a0_3) := (blk_cell BK383.out 3).trans rfl
                      have hfz61_0 := blk_frozen BK383.out 0
                      have hfz61_1 := blk_frozen BK383.out 1
                      have hfz61_2 := blk_frozen BK383.out 2
                      have hfz61_3 := blk_frozen BK383.out 3
                      have hnb62 := NB384_385.out
                      have hnc62 := NB385_384.out
                      have hcz63_0 : w29.cell? ⟨gb384, 0, none⟩ = some (.int .i64 a1_0) := (blk_cell BK384.out 0).trans rfl
                      have hcz63_1 : w29.cell? ⟨gb384, 1, none⟩ = some (.int .i64 a1_1) := (blk_cell BK384.out 1).trans rfl
                      have hcz63_2 : w29.cell? ⟨gb384, 2, none⟩ = some (.string a1_2) := (blk_cell BK384.out 2).trans rfl
                      have hcz63_3 : w29.cell? ⟨gb384, 3, none⟩ = some (.bool a1_3) := (blk_cell BK384.out 3).trans rfl
                      have hfz63_0 := blk_frozen BK384.out 0
                      have hfz63_1 := blk_frozen BK384.out 1
                      have hfz63_2 := blk_frozen BK384.out 2
                      have hfz63_3 := blk_frozen BK384.out 3
                      go_wp2
                      go_meet
                      case rel => exact ⟨_, (false), (by first | rfl | (simp; done) | (simp [*]; done) | (simp; unfold wrap64; omega)), H', ⟨by first | omega | exact Nat.le_refl _⟩, ⟨by (with_reducible repeat (first | refine blk_drewN ?_ _ | refine blk_drew ?_ | refine blk_alloc ?_ _)); exact BK383.out⟩, ⟨by (with_reducible repeat (first | refine blk_drewN ?_ _ | refine blk_drew ?_ | refine blk_alloc ?_ _)); exact BK384.out⟩, ⟨by (with_reducible repeat (first | refine blk_drewN ?_ _ | refine blk_drew ?_ | refine blk_alloc ?_ _)); exact BK385.out⟩, ⟨by repeat (first | (with_reducible first | exact HB.out | apply below_alloc | apply pw_below_drewN | apply below_drew1 | refine below_set ?_ GE383.out | refine below_set ?_ GE384.out | refine below_set ?_ GE385.out) | exact HB.out)⟩⟩
                · rw [if_neg c40] at H
                  have c40b0 : decide (t389 ≤ 0) = false := decide_eq_false c40
                  clear c40
                  by_cases c64 : t387 ≥ 0
                  · rw [if_pos c64] at H
                    have c64b0 : decide (0 ≤ t387) = true := decide_eq_true c64
                    clear c64
                    by_cases c65 : t389 ≥ 0
                    · rw [if_pos c65] at H
                      have c65b0 : decide (0 ≤ t389) = true := decide_eq_true c65
                      clear c65
                      have H' := Aside0.mk H
                      clear H
                      have hnb66 := NB383_384.out
                      have hnc66 := NB384_383.out
                      have hnb67 := NB383_385.out
                      have hnc67 := NB385_383.out
                      have hcz68_0 : w29.cell? ⟨gb383, 0, none⟩ = some (.int .i64 a0_0) := (blk_cell BK383.out 0).trans rfl
                      have hcz68_1 : w29.cell? ⟨gb383, 1, none⟩ = some (.int .i64 a0_1) := (blk_cell BK383.out 1).trans rfl
                      have hcz68_2 : w29.cell? ⟨gb383, 2, none⟩ = some (.string a0_2) := (blk_cell BK383.out 2).trans rfl
                      have hcz68_3 : w29.cell? ⟨gb383, 3, none⟩ = some (.bool a0_3) := (blk_cell BK383.out 3).trans rfl
                      have hfz68_0 := blk_frozen BK383.out 0
                      have hfz68_1 := blk_frozen BK383.out 1
                      have hfz68_2 := blk_frozen BK383.out 2
                      have hfz68_3 := blk_frozen BK383.out 3
                      have hnb69 := NB384_385.out
                      have hnc69 := NB385_384.out
                      have hcz70_0 : w29.cell? ⟨gb384, 0, none⟩ = some (.int .i64 a1_0) := (blk_cell BK384.out 0).trans rfl
                      have hcz70_1 : w29.cell? ⟨gb384, 1, none⟩ = some (.int .i64 a1_1) := (blk_cell BK384.out 1).trans rfl
                      have hcz70_2 : w29.cell? ⟨gb384, 2, none⟩ = some (.string a1_2) := (blk_cell BK384.out 2).trans rfl
                      have hcz70_3 : w29.cell? ⟨gb384, 3, none⟩ = some (.bool a1_3) := (blk_cell BK384.out 3).trans rfl
                      have hfz70_0 := blk_frozen BK384.out 0
                      have hfz70_1 := blk_frozen BK384.out 1
                      have hfz70_2 := blk_frozen BK384.out 2
                      have hfz70_3 := blk_frozen BK384.out 3
                      go_wp2
                      go_meet
                      case rel => exact ⟨_, (decide (t390 < 0)), (by first | rfl | (simp; done) | (simp [*]; done) | (simp; unfold wrap64; omega)), H', ⟨by first | omega | exact Nat.le_refl _⟩, ⟨by (with_reducible repeat (first | refine blk_drewN ?_ _ | refine blk_drew ?_ | refine blk_alloc ?_ _)); exact BK383.out⟩, ⟨by (with_reducible repeat (first | refine blk_drewN ?_ _ | refine blk_drew ?_ | refine blk_alloc ?_ _)); exact BK384.out⟩, ⟨by (with_reducible repeat (first | refine blk_drewN ?_ _ | refine blk_drew ?_ | refine blk_alloc ?_ _)); exact BK385.out⟩, ⟨by repeat (first | (with_reducible first | exact HB.out | apply below_alloc | apply pw_below_drewN | apply below_drew1 | refine below_set ?_ GE383.out | refine below_set ?_ GE384.out | refine below_set ?_ GE385.out) | exact HB.out)⟩⟩
                    · rw [if_neg c65] at H
                      have c65b0 : decide (0 ≤ t389) = false := decide_eq_false c65
                      clear c65
                      have H' := Aside0.mk H
                      clear H
                      have hnb71 := NB383_384.out
                      have hnc71 := NB384_383.out
                      have hnb72 := NB383_385.out
                      have hnc72 := NB385_383.out
                      have hcz73_0 : w29.cell? ⟨gb383, 0, none⟩ = some (.int .i64 a0_0) := (blk_cell BK383.out 0).trans rfl
                      have hcz73_1 : w29.cell? ⟨gb383, 1, none⟩ = some (.int .i64 a0_1) := (blk_cell BK383.out 1).trans rfl
                      have hcz73_2 : w29.cell? ⟨gb383, 2, none⟩ = some (.string a0_2) := (blk_cell BK383.out 2).trans rfl
                      have hcz73_3 : w29.cell? ⟨gb383, 3, none⟩ = some (.bool a0_3) := (blk_cell BK383.out 3).trans rfl
                      have hfz73_0 := blk_frozen BK383.out 0
                      have hfz73_1 := blk_frozen BK383.out 1
                      have hfz73_2 := blk_frozen BK383.out 2
                      have hfz73_3 := blk_frozen BK383.out 3
                      have hnb74 := NB384_385.out
                      have hnc74 := NB385_384.out
                      have hcz75_0 : w29.cell? ⟨gb384, 0, none⟩ = some (.int .i64 a1_0) := (blk_cell BK384.out 0).trans rfl
                      have hcz75_1 : w29.cell? ⟨gb384, 1, none⟩ = some (.int .i64 a1_1) := (blk_cell BK384.out 1).trans rfl
                      have hcz75_2 : w29.cell? ⟨gb384, 2, none⟩ = some (.string a1_2) := (blk_cell BK384.out 2).trans rfl
                      have hcz75_3 : w29.cell? ⟨gb384, 3, none⟩ = some (.bool a1_3) := (blk_cell BK384.out 3).trans rfl
                      have hfz75_0 := blk_frozen BK384.out 0
                      have hfz75_1 := blk_frozen BK384.out 1
                      have hfz75_2 := blk_frozen BK384.out 2
                      have hfz75_3 := blk_frozen BK384.out 3
                      go_wp2
                      go_meet
                      case rel => exact ⟨_, (false), (by first | rfl | (simp; done) | (simp [*]; done) | (simp; unfold wrap64; omega)), H', ⟨by first | omega | exact Nat.le_refl _⟩, ⟨by (with_reducible repeat (first | refine blk_drewN ?_ _ | refine blk_drew ?_ | refine blk_alloc ?_ _)); exact BK383.out⟩, ⟨by (with_reducible repeat (first | refine blk_drewN ?_ _ | refine blk_drew ?_ | refine blk_alloc ?_ _)); exact BK384.out⟩, ⟨by (with_reducible repeat (first | refine blk_drewN ?_ _ | refine blk_drew ?_ | refine blk_alloc ?_ _)); exact BK385.out⟩, ⟨by repeat (first | (with_reducible first | exact HB.out | apply below_alloc | apply pw_below_drewN | apply below_drew1 | refine below_set ?_ GE383.out | refine below_set ?_ GE384.out | refine below_set ?_ GE385.out) | exact HB.out)⟩⟩
                  · rw [if_neg c64] at H
                    have c64b0 : decide (0 ≤ t387) = false := decide_eq_false c64
                    clear c64
                    have H' := Aside0.mk H
                    clear H
                    have hnb76 := NB383_384.out
                    have hnc76 := NB384_383.out
                    have hnb77 := NB383_385.out
                    have hnc77 := NB385_383.out
                    have hcz78_0 : w29.cell? ⟨gb383, 0, none⟩ = some (.int .i64 a0_0) := (blk_cell BK383.out 0).trans rfl
                    have hcz78_1 : w29.cell? ⟨gb383, 1, none⟩ = some (.int .i64 a0_1) := (blk_cell BK383.out 1).trans rfl
                    have hcz78_2 : w29.cell? ⟨gb383, 2, none⟩ = some (.string a0_2) := (blk_cell BK383.out 2).trans rfl
                    have hcz78_3 : w29.cell? ⟨gb383, 3, none⟩ = some (.bool a0_3) := (blk_cell BK383.out 3).trans rfl
                    have hfz78_0 := blk_frozen BK383.out 0
                    have hfz78_1 := blk_frozen BK383.out 1
                    have hfz78_2 := blk_frozen BK383.out 2
                    have hfz78_3 := blk_frozen BK383.out 3
                    have hnb79 := NB384_385.out
                    have hnc79 := NB385_384.out
                    have hcz80_0 : w29.cell? ⟨gb384, 0, none⟩ = some (.int .i64 a1_0) := (blk_cell BK384.out 0).trans rfl
                    have hcz80_1 : w29.cell? ⟨gb384, 1, none⟩ = some (.int .i64 a1_1) := (blk_cell BK384.out 1).trans rfl
                    have hcz80_2 : w29.cell? ⟨gb384, 2, none⟩ = some (.string a1_2) := (blk_cell BK384.out 2).trans rfl
                    have hcz80_3 : w29.cell? ⟨gb384, 3, none⟩ = some (.bool a1_3) := (blk_cell BK384.out 3).trans rfl
                    have hfz80_0 := blk_frozen BK384.out 0
                    have hfz80_1 := blk_frozen BK384.out 1
                    have hfz80_2 := blk_frozen BK384.out 2
                    have hfz80_3 := blk_frozen BK384.out 3
                    go_wp2
                    go_meet
                    case rel => exact ⟨_, (false), (by first | rfl | (simp; done) | (simp [*]; done) | (simp; unfold wrap64; omega)), H', ⟨by first | omega | exact Nat.le_refl _⟩, ⟨by (with_reducible repeat (first | refine blk_drewN ?_ _ | refine blk_drew ?_ | refine blk_alloc ?_ _)); exact BK383.out⟩, ⟨by (with_reducible repeat (first | refine blk_drewN ?_ _ | refine blk_drew ?_ | refine blk_alloc ?_ _)); exact BK384.out⟩, ⟨by (with_reducible repeat (first | refine blk_drewN ?_ _ | refine blk_drew ?_ | refine blk_alloc ?_ _)); exact BK385.out⟩, ⟨by repeat (first | (with_reducible first | exact HB.out | apply below_alloc | apply pw_below_drewN | apply below_drew1 | refine below_set ?_ GE383.out | refine below_set ?_ GE384.out | refine below_set ?_ GE385.out) | exact HB.out)⟩⟩
              · rw [if_neg c39] at H
                have c39b0 : decide (t387 ≤ 0) = false := decide_eq_false c39
                clear c39
                by_cases c81 : t387 ≥ 0
                · rw [if_pos c81] at H
                  have c81b0 : decide (0 ≤ t387) = true := decide_eq_true c81
                  clear c81
                  by_cases c82 : t389 ≥ 0
                  · rw [if_pos c82] at H
                    have c82b0 : decide (0 ≤ t389) = true := decide_eq_true c82
                    clear c82
                    have H' := Aside0.mk H
                    clear H
                    have hnb83 := NB383_384.out
                    have hnc83 := NB384_383.out
                    have hnb84 := NB383_385.out
                    have hnc84 := NB385_383.out
                    have hcz85_0 : w29.cell? ⟨gb383, 0, none⟩ = some (.int .i64 a0_0) := (blk_cell BK383.out 0).trans rfl
                    have hcz85_1 : w29.cell? ⟨gb383, 1, none⟩ = some (.int .i64 a0_1) := (blk_cell BK383.out 1).trans rfl
                    have hcz85_2 : w29.cell? ⟨gb383, 2, none⟩ = some (.string a0_2) := (blk_cell BK383.out 2).trans rfl
                    have hcz85_3 : w29.cell? ⟨gb383, 3, none⟩ = some (.bool a0_3) := (blk_cell BK383.out 3).trans rfl
                    have hfz85_0 := blk_frozen BK383.out 0
                    have hfz85_1 := blk_frozen BK383.out 1
                    have hfz85_2 := blk_frozen BK383.out 2
                    have hfz85_3 := blk_frozen BK383.out 3
                    have hnb86 := NB384_385.out
                    have hnc86 := NB385_384.out
                    have hcz87_0 : w29.cell? ⟨gb384, 0, none⟩ = some (.int .i64 a1_0) := (blk_cell BK384.out 0).trans rfl
                    have hcz87_1 : w29.cell? ⟨gb384, 1, none⟩ = some (.int .i64 a1_1) := (blk_cell BK384.out 1).trans rfl
                    have hcz87_2 : w29.cell? ⟨gb384, 2, none⟩ = some (.string a1_2) := (blk_cell BK384.out 2).trans rfl
                    have hcz87_3 : w29.cell? ⟨gb384, 3, none⟩ = some (.bool a1_3) := (blk_cell BK384.out 3).trans rfl
                    have hfz87_0 := blk_frozen BK384.out 0
                    have hfz87_1 := blk_frozen BK384.out 1
                    have hfz87_2 := blk_frozen BK384.out 2
                    have hfz87_3 := blk_frozen BK384.out 3
                    go_wp2
                    go_meet
                    case rel => exact ⟨_, (decide (t390 < 0)), (by first | rfl | (simp; done) | (simp [*]; done) | (simp; unfold wrap64; omega)), H', ⟨by first | omega | exact Nat.le_refl _⟩, ⟨by (with_reducible repeat (first | refine blk_drewN ?_ _ | refine blk_drew ?_ | refine blk_alloc ?_ _)); exact BK383.out⟩, ⟨by (with_reducible repeat (first | refine blk_drewN ?_ _ | refine blk_drew ?_ | refine blk_alloc ?_ _)); exact BK384.out⟩, ⟨by (with_reducible repeat (first | refine blk_drewN ?_ _ | refine blk_drew ?_ | refine blk_alloc ?_ _)); exact BK385.out⟩, ⟨by repeat (first | (with_reducible first | exact HB.out | apply below_alloc | apply pw_below_drewN | apply below_drew1 | refine below_set ?_ GE383.out | refine below_set ?_ GE384.out | refine below_set ?_ GE385.out) | exact HB.out)⟩⟩
                  · rw [if_neg c82] at H
                    have c82b0 : decide (0 ≤ t389) = false := decide_eq_false c82
                    clear c82
                    have H' := Aside0.mk H
                    clear H
                    have hnb88 := NB383_384.out
                    have hnc88 := NB384_383.out
                    have hnb89 := NB383_385.out
                    have hnc89 := NB385_383.out
                    have hcz90_0 : w29.cell? ⟨gb383, 0, none⟩ = some (.int .i64 a0_0) := (blk_cell BK383.out 0).trans rfl
                    have hcz90_1 : w29.cell? ⟨gb383, 1, none⟩ = some (.int .i64 a0_1) := (blk_cell BK383.out 1).trans rfl
                    have hcz90_2 : w29.cell? ⟨gb383, 2, none⟩ = some (.string a0_2) := (blk_cell BK383.out 2).trans rfl
                    have hcz90_3 : w29.cell? ⟨gb383, 3, none⟩ = some (.bool a0_3) := (blk_cell BK383.out 3).trans rfl
                    have hfz90_0 := blk_frozen BK383.out 0
                    have hfz90_1 := blk_frozen BK383.out 1
                    have hfz90_2 := blk_frozen BK383.out 2
                    have hfz90_3 := blk_frozen BK383.out 3
                    have hnb91 := NB384_385.out
                    have hnc91 := NB385_384.out
                    have hcz92_0 : w29.cell? ⟨gb384, 0, none⟩ = some (.int .i64 a1_0) := (blk_cell BK384.out 0).trans rfl
                    have hcz92_1 : w29.cell? ⟨gb384, 1, none⟩ = some (.int .i64 a1_1) := (blk_cell BK384.out 1).trans rfl
                    have hcz92_2 : w29.cell? ⟨gb384, 2, none⟩ = some (.string a1_2) := (blk_cell BK384.out 2).trans rfl
                    have hcz92_3 : w29.cell? ⟨gb384, 3, none⟩ = some (.bool a1_3) := (blk_cell BK384.out 3).trans rfl
                    have hfz92_0 := blk_frozen BK384.out 0
                    have hfz92_1 := blk_frozen BK384.out 1
                    have hfz92_2 := blk_frozen BK384.out 2
                    have hfz92_3 := blk_frozen BK384.out 3
                    go_wp2
                    go_meet
                    case rel => exact ⟨_, (false), (by first | rfl | (simp; done) | (simp [*]; done) | (simp; unfold wrap64; omega)), H', ⟨by first | omega | exact Nat.le_refl _⟩, ⟨by (with_reducible repeat (first | refine blk_drewN ?_ _ | refine blk_drew ?_ | refine blk_alloc ?_ _)); exact BK383.out⟩, ⟨by (with_reducible repeat (first | refine blk_drewN ?_ _ | refine blk_drew ?_ | refine blk_alloc ?_ _)); exact BK384.out⟩, ⟨by (with_reducible repeat (first | refine blk_drewN ?_ _ | refine blk_drew ?_ | refine blk_alloc ?_ _)); exact BK385.out⟩, ⟨by repeat (first | (with_reducible first | exact HB.out | apply below_alloc | apply pw_below_drewN | apply below_drew1 | refine below_set ?_ GE383.out | refine below_set ?_ GE384.out | refine below_set ?_ GE385.out) | exact HB.out)⟩⟩
                · rw [if_neg c81] at H
                  have c81b0 : decide (0 ≤ t387) = false := decide_eq_false c81
                  clear c81
                  have H' := Aside0.mk H
                  clear H
                  have hnb93 := NB383_384.out
                  have hnc93 := NB384_383.out
                  have hnb94 := NB383_385.out
                  have hnc94 := NB385_383.out
                  have hcz95_0 : w29.cell? ⟨gb383, 0, none⟩ = some (.int .i64 a0_0) := (blk_cell BK383.out 0).trans rfl
                  have hcz95_1 : w29.cell? ⟨gb383, 1, none⟩ = some (.int .i64 a0_1) := (blk_cell BK383.out 1).trans rfl
                  have hcz95_2 : w29.cell? ⟨gb383, 2, none⟩ = some (.string a0_2) := (blk_cell BK383.out 2).trans rfl
                  have hcz95_3 : w29.cell? ⟨gb383, 3, none⟩ = some (.bool a0_3) := (blk_cell BK383.out 3).trans rfl
                  have hfz95_0 := blk_frozen BK383.out 0
                  have hfz95_1 := blk_frozen BK383.out 1
                  have hfz95_2 := blk_frozen BK383.out 2
                  have hfz95_3 := blk_frozen BK383.out 3
                  have hnb96 := NB384_385.out
                  have hnc96 := NB385_384.out
                  have hcz97_0 : w29.cell? ⟨gb384, 0, none⟩ = some (.int .i64 a1_0) := (blk_cell BK384.out 0).trans rfl
                  have hcz97_1 : w29.cell? ⟨gb384, 1, none⟩ = some (.int .i64 a1_1) := (blk_cell BK384.out 1).trans rfl
                  have hcz97_2 : w29.cell? ⟨gb384, 2, none⟩ = some (.string a1_2) := (blk_cell BK384.out 2).trans rfl
                  have hcz97_3 : w29.cell? ⟨gb384, 3, none⟩ = some (.bool a1_3) := (blk_cell BK384.out 3).trans rfl
                  have hfz97_0 := blk_frozen BK384.out 0
                  have hfz97_1 := blk_frozen BK384.out 1
                  have hfz97_2 := blk_frozen BK384.out 2
                  have hfz97_3 := blk_frozen BK384.out 3
                  go_wp2
                  go_meet
                  case rel => exact ⟨_, (false), (by first | rfl | (simp; done) | (simp [*]; done) | (simp; unfold wrap64; omega)), H', ⟨by first | omega | exact Nat.le_refl _⟩, ⟨by (with_reducible repeat (first | refine blk_drewN ?_ _ | refine blk_drew ?_ | refine blk_alloc ?_ _)); exact BK383.out⟩, ⟨by (with_reducible repeat (first | refine blk_drewN ?_ _ | refine blk_drew ?_ | refine blk_alloc ?_ _)); exact BK384.out⟩, ⟨by (with_reducible repeat (first | refine blk_drewN ?_ _ | refine blk_drew ?_ | refine blk_alloc ?_ _)); exact BK385.out⟩, ⟨by repeat (first | (with_reducible first | exact HB.out | apply below_alloc | apply pw_below_drewN | apply below_drew1 | refine below_set ?_ GE383.out | refine below_set ?_ GE384.out | refine below_set ?_ GE385.out) | exact HB.out)⟩⟩
          · rw [if_neg c32] at H
            have c32b0 : (t387 == (wrap64 (-t388))) = false := beq_eq_false_iff_ne.mpr c32
            have c32b1 : (t387 != (wrap64 (-t388))) = true := bne_iff_ne.mpr c32
            have H' := Aside0.mk H
            clear H
            go_wp2
            go_meet
            case rel => exact ⟨_, (true), (by first | rfl | (simp; done) | (simp [*]; done) | (simp; unfold wrap64; omega)), H', ⟨by first | omega | exact Nat.le_refl _⟩, ⟨by (with_reducible repeat (first | refine blk_drewN ?_ _ | refine blk_drew ?_ | refine blk_alloc ?_ _)); exact BK383.out⟩, ⟨by (with_reducible repeat (first | refine blk_drewN ?_ _ | refine blk_drew ?_ | refine blk_alloc ?_ _)); exact BK384.out⟩, ⟨by (with_reducible repeat (first | refine blk_drewN ?_ _ | refine blk_drew ?_ | refine blk_alloc ?_ _)); exact BK385.out⟩, ⟨by repeat (first | (with_reducible first | exact HB.out | apply below_alloc | apply pw_below_drewN | apply below_drew1 | refine below_set ?_ GE383.out | refine below_set ?_ GE384.out | refine below_set ?_ GE385.out) | exact HB.out)⟩⟩
    case rest =>
      clear HC10
      try clear c1
      try clear p2
      try clear c3
      try clear c4
      try clear c5
      try clear c6
      try clear p6
      try clear c7
      try clear c8
      try clear c9
      try clear c10
      try clear c15
      try clear c16
      try clear c17
      try clear c18
      try clear c30
      try clear c30b0
      try clear c31
      try clear c31b0
      try clear c32
      try clear c32b0
      try clear c32b1
      try clear c33
      try clear c33b0
      try clear c33b1
      try clear c33b2
      try clear c34
      try clear c35
      try clear c37
      try clear c39
      try clear c39b0
      try clear c40
      try clear c40b0
      try clear c41
      try clear c41b0
      try clear c42
      try clear c43
      try clear c45
      try clear c47
      try clear c47b0
      try clear c48
      try clear c48b0
      try clear c49
      try clear c50
      try clear c52
      try clear c54
      try clear c55
      try clear c57
      try clear c59
      try clear c60
      try clear c62
      try clear c64
      try clear c64b0
      try clear p64
      try clear c65
      try clear c65b0
      try clear c66
      try clear c67
      try clear c69
      try clear c71
      try clear c72
      try clear c74
      try clear c76
      try clear c77
      try clear c79
      try clear c81
      try clear c81b0
      try clear c82
      try clear c82b0
      try clear c83
      try clear c84
      try clear c86
      try clear c88
      try clear c89
      try clear c91
      try clear c93
      try clear c94
      try clear c96
      try clear hcz17_0
      try clear hcz17_1
      try clear hcz17_2
      try clear hcz17_3
      try clear hcz19_0
      try clear hcz19_1
      try clear hcz19_2
      try clear hcz19_3
      try clear hcz21_0
      try clear hcz21_1
      try clear hcz21_2
      try clear hcz21_3
      try clear hcz22_0
      try clear hcz22_1
      try clear hcz22_2
      try clear hcz22_3
      try clear hcz24_0
      try clear hcz24_1
      try clear hcz24_2
      try clear hcz24_3
      try clear hcz25_0
      try clear hcz25_1
      try clear hcz25_2
      try clear hcz25_3
      try clear hcz27_0
      try clear hcz27_1
      try clear hcz27_2
      try clear hcz27_3
      try clear hcz28_0
      try clear hcz28_1
      try clear hcz28_2
      try clear hcz28_3
      try clear hcz36_0
      try clear hcz36_1
      try clear hcz36_2
      try clear hcz36_3
      try clear hcz38_0
      try clear hcz38_1
      try clear hcz38_2
      try clear hcz38_3
      try clear hcz44_0
      try clear hcz44_1
      try clear hcz44_2
      try clear hcz44_3
      try clear hcz46_0
      try clear hcz46_1
      try clear hcz46_2
      try clear hcz46_3
      try clear hcz51_0
      try clear hcz51_1
      try clear hcz51_2
      try clear hcz51_3
      try clear hcz53_0
      try clear hcz53_1
      try clear hcz53_2
      try clear hcz53_3
      try clear hcz56_0
      try clear hcz56_1
      try clear hcz56_2
      try clear hcz56_3
      try clear hcz58_0
      try clear hcz58_1
      try clear hcz58_2
      try clear hcz58_3
      try clear hcz61_0
      try clear hcz61_1
      try clear hcz61_2
      try clear hcz61_3
      try clear hcz63_0
      try clear hcz63_1
      try clear hcz63_2
      try clear hcz63_3
      try clear hcz68_0
      try clear hcz68_1
      try clear hcz68_2
      try clear hcz68_3
      try clear hcz70_0
      try clear hcz70_1
      try clear hcz70_2
      try clear hcz70_3
      try clear hcz73_0
      try clear hcz73_1
      try clear hcz73_2
      try clear hcz73_3
      try clear hcz75_0
      try clear hcz75_1
      try clear hcz75_2
      try clear hcz75_3
      try clear hcz78_0
      try clear hcz78_1
      try clear hcz78_2
      try clear hcz78_3
      try clear hcz80_0
      try clear hcz80_1
      try clear hcz80_2
      try clear hcz80_3
      try clear hcz85_0
      try clear hcz85_1
      try clear hcz85_2
      try clear hcz85_3
      try clear hcz87_0
      try clear hcz87_1
      try clear hcz87_2
      try clear hcz87_3
      try clear hcz90_0
      try clear hcz90_1
      try clear hcz90_2
      try clear hcz90_3
      try clear hcz92_0
      try clear hcz92_1
      try clear hcz92_2
      try clear hcz92_3
      try clear hcz95_0
      try clear hcz95_1
      try clear hcz95_2
      try clear hcz95_3
      try clear hcz97_0
      try clear hcz97_1
      try clear hcz97_2
      try clear hcz97_3
      try clear hfz17_0
      try clear hfz17_1
      try clear hfz17_2
      try clear hfz17_3
      try clear hfz19_0
      try clear hfz19_1
      try clear hfz19_2
      try clear hfz19_3
      try clear hfz21_0
      try clear hfz21_1
      try clear hfz21_2
      try clear hfz21_3
      try clear hfz22_0
      try clear hfz22_1
      try clear hfz22_2
      try clear hfz22_3
      try clear hfz24_0
      try clear hfz24_1
      try clear hfz24_2
      try clear hfz24_3
      try clear hfz25_0
      try clear hfz25_1
      try clear hfz25_2
      try clear hfz25_3
      try clear hfz27_0
      try clear hfz27_1
      try clear hfz27_2
      try clear hfz27_3
      try clear hfz28_0
      try clear hfz28_1
      try clear hfz28_2
      try clear hfz28_3
      try clear hfz36_0
      try clear hfz36_1
      try clear hfz36_2
      try clear hfz36_3
      try clear hfz38_0
      try clear hfz38_1
      try clear hfz38_2
      try clear hfz38_3
      try clear hfz44_0
      try clear hfz44_1
      try clear hfz44_2
      try clear hfz44_3
      try clear hfz46_0
      try clear hfz46_1
      try clear hfz46_2
      try clear hfz46_3
      try clear hfz51_0
      try clear hfz51_1
      try clear hfz51_2
      try clear hfz51_3
      try clear hfz53_0
      try clear hfz53_1
      try clear hfz53_2
      try clear hfz53_3
      try clear hfz56_0
      try clear hfz56_1
      try clear hfz56_2
      try clear hfz56_3
      try clear hfz58_0
      try clear hfz58_1
      try clear hfz58_2
      try clear hfz58_3
      try clear hfz61_0
      try clear hfz61_1
      try clear hfz61_2
      try clear hfz61_3
      try clear hfz63_0
      try clear hfz63_1
      try clear hfz63_2
      try clear hfz63_3
      try clear hfz68_0
      try clear hfz68_1
      try clear hfz68_2
      try clear hfz68_3
      try clear hfz70_0
      try clear hfz70_1
      try clear hfz70_2
      try clear hfz70_3
      try clear hfz73_0
      try clear hfz73_1
      try clear hfz73_2
      try clear hfz73_3
      try clear hfz75_0
      try clear hfz75_1
      try clear hfz75_2
      try clear hfz75_3
      try clear hfz78_0
      try clear hfz78_1
      try clear hfz78_2
      try clear hfz78_3
      try clear hfz80_0
      try clear hfz80_1
      try clear hfz80_2
      try clear hfz80_3
      try clear hfz85_0
      try clear hfz85_1
      try clear hfz85_2
      try clear hfz85_3
      try clear hfz87_0
      try clear hfz87_1
      try clear hfz87_2
      try clear hfz87_3
      try clear hfz90_0
      try clear hfz90_1
      try clear hfz90_2
      try clear hfz90_3
      try clear hfz92_0
      try clear hfz92_1
      try clear hfz92_2
      try clear hfz92_3
      try clear hfz95_0
      try clear hfz95_1
      try clear hfz95_2
      try clear hfz95_3
      try clear hfz97_0
      try clear hfz97_1
      try clear hfz97_2
      try clear hfz97_3
      obtain ⟨kq, x72_9, rfl, HA, HJ9, BK383, BK384, BK385, HB⟩ := hcut
      cases kq with
      | zero => (have HA2 := HA.out; clear HA; revert HA2; rw [refrainlaw1_ValueOrder.j0_zero]; intro h_; cases h_)
      | succ kj9 =>
        have H := HA.out
        clear HA
        simp only [refrainlaw1_ValueOrder.j0] at H
        by_cases c98 : x72_9 = true
        · subst c98
          have H1 : (some false) = some r := by rw [if_pos rfl] at H; exact H
          clear H
          have H := H1
          clear H1
          exact absurd ((Option.some.inj H).trans hr.out) Bool.false_ne_true
        · replace c98 := Bool.eq_false_iff.mpr c98
          subst c98
          have H1 : ((value_Valid.f a0_0 a0_1 a0_2 a0_3).bind fun t391 => ((value_Valid.f a1_0 a1_1 a1_2 a1_3).bind fun t392 => (if t391 = true then (if t392 = true then (if a0_0 = a1_0 then (if a0_0 = 3 then (some true) else ((refrainlaw1_ordered.f kj9 a0_0 a0_1 a0_2 a0_3 a1_0 a1_1 a1_2 a1_3).bind fun t393 => (some t393))) else (some true)) else (some true)) else (some true)))) = some r := by rw [if_neg (show ¬ (false = true) by decide)] at H; exact H
          clear H
          have H := H1
          clear H1
          replace H := Option.bind_eq_some_iff.mp H
          obtain ⟨t391, A990, H⟩ := H
          replace H : ((value_Valid.f a1_0 a1_1 a1_2 a1_3).bind fun t392 => (if t391 = true then (if t392 = true then (if a0_0 = a1_0 then (if a0_0 = 3 then (some true) else ((refrainlaw1_ordered.f kj9 a0_0 a0_1 a0_2 a0_3 a1_0 a1_1 a1_2 a1_3).bind fun t393 => (some t393))) else (some true)) else (some true)) else (some true))) = some r := H
          have A99 := Aside0.mk A990
          clear A990
          replace H := Option.bind_eq_some_iff.mp H
          obtain ⟨t392, A1000, H⟩ := H
          replace H : (if t391 = true then (if t392 = true then (if a0_0 = a1_0 then (if a0_0 = 3 then (some true) else ((refrainlaw1_ordered.f kj9 a0_0 a0_1 a0_2 a0_3 a1_0 a1_1 a1_2 a1_3).bind fun t393 => (some t393))) else (some true)) else (some true)) else (some true)) = some r := H
          have A100 := Aside0.mk A1000
          clear A1000
          by_cases c101 : t391 = true
          · subst c101
            have H1 : (if t392 = true then (if a0_0 = a1_0 then (if a0_0 = 3 then (some true) else ((refrainlaw1_ordered.f kj9 a0_0 a0_1 a0_2 a0_3 a1_0 a1_1 a1_2 a1_3).bind fun t393 => (some t393))) else (some true)) else (some true)) = some r := by rw [if_pos rfl] at H; exact H
            clear H
            have H := H1
            clear H1
            by_cases c102 : t392 = true
            · subst c102
              have H1 : (if a0_0 = a1_0 then (if a0_0 = 3 then (some true) else ((refrainlaw1_ordered.f kj9 a0_0 a0_1 a0_2 a0_3 a1_0 a1_1 a1_2 a1_3).bind fun t393 => (some t393))) else (some true)) = some r := by rw [if_pos rfl] at H; exact H
              clear H
              have H := H1
              clear H1
              by_cases c103 : a0_0 = a1_0
              · rw [if_pos c103] at H
                have c103b0 : (a0_0 == a1_0) = true := beq_iff_eq.mpr c103
                have c103b1 : (a0_0 != a1_0) = false := bne_eq_false_iff_eq.mpr c103
                clear c103
                by_cases c104 : a0_0 = 3
                · rw [if_pos c104] at H
                  have c104b0 : (a0_0 == 3) = true := beq_iff_eq.mpr c104
                  have c104b1 : (a0_0 != 3) = false := bne_eq_false_iff_eq.mpr c104
                  clear c104
                  obtain rfl := Option.some.inj H
                  have hnb105 := NB383_384.out
                  have hnc105 := NB384_383.out
                  have hnb106 := NB383_385.out
                  have hnc106 := NB385_383.out
                  have hcz107_0 : wc.cell? ⟨gb383, 0, none⟩ = some (.int .i64 a0_0) := (blk_cell BK383.out 0).trans rfl
                  have hcz107_1 : wc.cell? ⟨gb383, 1, none⟩ = some (.int .i64 a0_1) := (blk_cell BK383.out 1).trans rfl
                  have hcz107_2 : wc.cell? ⟨gb383, 2, none⟩ = some (.string a0_2) := (blk_cell BK383.out 2).trans rfl
                  have hcz107_3 : wc.cell? ⟨gb383, 3, none⟩ = some (.bool a0_3) := (blk_cell BK383.out 3).trans rfl
                  have hfz107_0 := blk_frozen BK383.out 0
                  have hfz107_1 := blk_frozen BK383.out 1
                  have hfz107_2 := blk_frozen BK383.out 2
                  have hfz107_3 := blk_frozen BK383.out 3
                  go_wp2_with (first | ((with_reducible refine gate_callee (f := 11) rfl ?_); refine goesL_ (some 74) rfl rfl Tryd.func11 (by kernel_rfl) rfl #[.agg #[.int .i64 a0_0, .int .i64 a0_1, .string a0_2, .bool a0_3]] rfl (by (try simp only [List.map_toArray, List.map_cons, List.map_nil]); first | done | rfl | (simp only [List.length_drop, List.length_take]; rfl)) ?_; (with_reducible refine (value_Valid.calls a0_0 a0_1 a0_2 a0_3 true _ A99.out).mono ?_); rintro e w108 ⟨rfl, hb⟩; refine ⟨_, rfl, ?_⟩; have n0_ := Aside0.mk (blk_below (g := gb383) (o := .cells #[.int .i64 a0_0, .int .i64 a0_1, .string a0_2, .bool a0_3] 26 (0, 0)) (by (with_reducible repeat (first | refine blk_drewN ?_ _ | refine blk_drew ?_ | refine blk_alloc ?_ _)); exact BK383.out) hb); have n1_ := Aside0.mk (blk_below (g := gb384) (o := .cells #[.int .i64 a1_0, .int .i64 a1_1, .string a1_2, .bool a1_3] 26 (0, 0)) (by (with_reducible repeat (first | refine blk_drewN ?_ _ | refine blk_drew ?_ | refine blk_alloc ?_ _)); exact BK384.out) hb); have n2_ := Aside0.mk (blk_below (g := gb385) (o := .cells #[.int .i64 a2_0, .int .i64 a2_1, .string a2_2, .bool a2_3] 26 (0, 0)) (by (with_reducible repeat (first | refine blk_drewN ?_ _ | refine blk_drew ?_ | refine blk_alloc ?_ _)); exact BK385.out) hb); have n3_ := Aside0.mk (below_step (by repeat (first | (with_reducible first | exact HB.out | apply below_alloc | apply pw_below_drewN | apply below_drew1 | refine below_set ?_ GE383.out | refine below_set ?_ GE384.out | refine below_set ?_ GE385.out) | exact HB.out)) hb); clear BK383; clear BK384; clear BK385; clear HB; have BK383 := n0_; have BK384 := n1_; have BK385 := n2_; have HB := n3_; clear n0_ n1_ n2_ n3_; (try clear hb); (try clear hb2); (try clear hk); (try clear hi); have hnb109 := NB384_385.out; have hnc109 := NB385_384.out; have hcz110_0 : w108.cell? ⟨gb384, 0, none⟩ = some (.int .i64 a1_0) := (blk_cell BK384.out 0).trans rfl; have hcz110_1 : w108.cell? ⟨gb384, 1, none⟩ = some (.int .i64 a1_1) := (blk_cell BK384.out 1).trans rfl; have hcz110_2 : w108.cell? ⟨gb384, 2, none⟩ = some (.string a1_2) := (blk_cell BK384.out 2).trans rfl; have hcz110_3 : w108.cell? ⟨gb384, 3, none⟩ = some (.bool a1_3) := (blk_cell BK384.out 3).trans rfl; have hfz110_0 := blk_frozen BK384.out 0; have hfz110_1 := blk_frozen BK384.out 1; have hfz110_2 := blk_frozen BK384.out 2; have hfz110_3 := blk_frozen BK384.out 3) | ((with_reducible refine gate_callee (f := 11) rfl ?_); refine goesL_ (some 76) rfl rfl Tryd.func11 (by kernel_rfl) rfl #[.agg #[.int .i64 a1_0, .int .i64 a1_1, .string a1_2, .bool a1_3]] rfl (by (try simp only [List.map_toArray, List.map_cons, List.map_nil]); first | done | rfl | (simp only [List.length_drop, List.length_take]; rfl)) ?_; (with_reducible refine (value_Valid.calls a1_0 a1_1 a1_2 a1_3 true _ A100.out).mono ?_); rintro e w111 ⟨rfl, hb⟩; refine ⟨_, rfl, ?_⟩; have n0_ := Aside0.mk (blk_below (g := gb383) (o := .cells #[.int .i64 a0_0, .int .i64 a0_1, .string a0_2, .bool a0_3] 26 (0, 0)) (by (with_reducible repeat (first | refine blk_drewN ?_ _ | refine blk_drew ?_ | refine blk_alloc ?_ _)); exact BK383.out) hb); have n1_ := Aside0.mk (blk_below (g := gb384) (o := .cells #[.int .i64 a1_0, .int .i64 a1_1, .string a1_2, .bool a1_3] 26 (0, 0)) (by (with_reducible repeat (first | refine blk_drewN ?_ _ | refine blk_drew ?_ | refine blk_alloc ?_ _)); exact BK384.out) hb); have n2_ := Aside0.mk (blk_below (g := gb385) (o := .cells #[.int .i64 a2_0, .int .i64 a2_1, .string a2_2, .bool a2_3] 26 (0, 0)) (by (with_reducible repeat (first | refine blk_drewN ?_ _ | refine blk_drew ?_ | refine blk_alloc ?_ _)); exact BK385.out) hb); have n3_ := Aside0.mk (below_step (by repeat (first | (with_reducible first | exact HB.out | apply below_alloc | apply pw_below_drewN | apply below_drew1 | refine below_set ?_ GE383.out | refine below_set ?_ GE384.out | refine below_set ?_ GE385.out) | exact HB.out)) hb); clear BK383; clear BK384; clear BK385; clear HB; have BK383 := n0_; have BK384 := n1_; have BK385 := n2_; have HB := n3_; clear n0_ n1_ n2_ n3_; (try clear hb); (try clear hb2); (try clear hk); (try clear hi); have hcz112_0 : w111.cell? ⟨gb383, 0, none⟩ = some (.int .i64 a0_0) := (blk_cell BK383.out 0).trans rfl; have hcz112_1 : w111.cell? ⟨gb383, 1, none⟩ = some (.int .i64 a0_1) := (blk_cell BK383.out 1).trans rfl; have hcz112_2 : w111.cell? ⟨gb383, 2, none⟩ = some (.string a0_2) := (blk_cell BK383.out 2).trans rfl; have hcz112_3 : w111.cell? ⟨gb383, 3, none⟩ = some (.bool a0_3) := (blk_cell BK383.out 3).trans rfl; have hfz112_0 := blk_frozen BK383.out 0; have hfz112_1 := blk_frozen BK383.out 1; have hfz112_2 := blk_frozen BK383.out 2; have hfz112_3 := blk_frozen BK383.out 3; have hcz113_0 : w111.cell? ⟨gb384, 0, none⟩ = some (.int .i64 a1_0) := (blk_cell BK384.out 0).trans rfl; have hcz113_1 : w111.cell? ⟨gb384, 1, none⟩ = some (.int .i64 a1_1) := (blk_cell BK384.out 1).trans rfl; have hcz113_2 : w111.cell? ⟨gb384, 2, none⟩ = some (.string a1_2) := (blk_cell BK384.out 2).trans rfl; have hcz113_3 : w111.cell? ⟨gb384, 3, none⟩ = some (.bool a1_3) := (blk_cell BK384.out 3).trans rfl; have hfz113_0 := blk_frozen BK384.out 0; have hfz113_1 := blk_frozen BK384.out 1; have hfz113_2 := blk_frozen BK384.out 2; have hfz113_3 := blk_frozen BK384.out 3))
                  (try any_goals (exfalso; first | (have h_ := c33b5.out; contradiction)))
                  go_ret
                  exact ⟨by first | rfl | (simp [errW_none, errW_some] <;> rfl) | (simp [*, errW_none, errW_some] <;> rfl), by repeat (first | (with_reducible first | exact HB.out | apply below_alloc | apply pw_below_drewN | apply below_drew1 | refine below_set ?_ GE383.out | refine below_set ?_ GE384.out | refine below_set ?_ GE385.out) | exact HB.out)⟩
                · rw [if_neg c104] at H
                  have c104b0 : (a0_0 == 3) = false := beq_eq_false_iff_ne.mpr c104
                  have c104b1 : (a0_0 != 3) = true := bne_iff_ne.mpr c104
                  replace H := Option.bind_eq_some_iff.mp H
                  obtain ⟨t393, A1140, H⟩ := H
                  replace H : (some t393) = some r := H
                  have A114 := Aside0.mk A1140
                  clear A1140
                  obtain rfl := Option.some.inj H
                  have hnb115 := NB383_384.out
                  have hnc115 := NB384_383.out
                  have hnb116 := NB383_385.out
                  have hnc116 := NB385_383.out
                  have hcz117_0 : wc.cell? ⟨gb383, 0, none⟩ = some (.int .i64 a0_0) := (blk_cell BK383.out 0).trans rfl
                  have hcz117_1 : wc.cell? ⟨gb383, 1, none⟩ = some (.int .i64 a0_1) := (blk_cell BK383.out 1).trans rfl
                  have hcz117_2 : wc.cell? ⟨gb383, 2, none⟩ = some (.string a0_2) := (blk_cell BK383.out 2).trans rfl
                  have hcz117_3 : wc.cell? ⟨gb383, 3, none⟩ = some (.bool a0_3) := (blk_cell BK383.out 3).trans rfl
                  have hfz117_0 := blk_frozen BK383.out 0
                  have hfz117_1 := blk_frozen BK383.out 1
                  have hfz117_2 := blk_frozen BK383.out 2
                  have hfz117_3 := blk_frozen BK383.out 3
                  go_wp2_with (first | ((with_reducible refine gate_callee (f := 11) rfl ?_); refine goesL_ (some 74) rfl rfl Tryd.func11 (by kernel_rfl) rfl #[.agg #[.int .i64 a0_0, .int .i64 a0_1, .string a0_2, .bool a0_3]] rfl (by (try simp only [List.map_toArray, List.map_cons, List.map_nil]); first | done | rfl | (simp only [List.length_drop, List.length_take]; rfl)) ?_; (with_reducible refine (value_Valid.calls a0_0 a0_1 a0_2 a0_3 true _ A99.out).mono ?_); rintro e w118 ⟨rfl, hb⟩; refine ⟨_, rfl, ?_⟩; have n0_ := Aside0.mk (blk_below (g := gb383) (o := .cells #[.int .i64 a0_0, .int .i64 a0_1, .string a0_2, .bool a0_3] 26 (0, 0)) (by (with_reducible repeat (first | refine blk_drewN ?_ _ | refine blk_drew ?_ | refine blk_alloc ?_ _)); exact BK383.out) hb); have n1_ := Aside0.mk (blk_below (g := gb384) (o := .cells #[.int .i64 a1_0, .int .i64 a1_1, .string a1_2, .bool a1_3] 26 (0, 0)) (by (with_reducible repeat (first | refine blk_drewN ?_ _ | refine blk_drew ?_ | refine blk_alloc ?_ _)); exact BK384.out) hb); have n2_ := Aside0.mk (blk_below (g := gb385) (o := .cells #[.int .i64 a2_0, .int .i64 a2_1, .string a2_2, .bool a2_3] 26 (0, 0)) (by (with_reducible repeat (first | refine blk_drewN ?_ _ | refine blk_drew ?_ | refine blk_alloc ?_ _)); exact BK385.out) hb); have n3_ := Aside0.mk (below_step (by repeat (first | (with_reducible first | exact HB.out | apply below_alloc | apply pw_below_drewN | apply below_drew1 | refine below_set ?_ GE383.out | refine below_set ?_ GE384.out | refine below_set ?_ GE385.out) | exact HB.out)) hb); clear BK383; clear BK384; clear BK385; clear HB; have BK383 := n0_; have BK384 := n1_; have BK385 := n2_; have HB := n3_; clear n0_ n1_ n2_ n3_; (try clear hb); (try clear hb2); (try clear hk); (try clear hi); have hnb119 := NB384_385.out; have hnc119 := NB385_384.out; have hcz120_0 : w118.cell? ⟨gb384, 0, none⟩ = some (.int .i64 a1_0) := (blk_cell BK384.out 0).trans rfl; have hcz120_1 : w118.cell? ⟨gb384, 1, none⟩ = some (.int .i64 a1_1) := (blk_cell BK384.out 1).trans rfl; have hcz120_2 : w118.cell? ⟨gb384, 2, none⟩ = some (.string a1_2) := (blk_cell BK384.out 2).trans rfl; have hcz120_3 : w118.cell? ⟨gb384, 3, none⟩ = some (.bool a1_3) := (blk_cell BK384.out 3).trans rfl; have hfz120_0 := blk_frozen BK384.out 0; have hfz120_1 := blk_frozen BK384.out 1; have hfz120_2 := blk_frozen BK384.out 2; have hfz120_3 := blk_frozen BK384.out 3) | ((with_reducible refine gate_callee (f := 11) rfl ?_); refine goesL_ (some 76) rfl rfl Tryd.func11 (by kernel_rfl) rfl #[.agg #[.int .i64 a1_0, .int .i64 a1_1, .string a1_2, .bool a1_3]] rfl (by (try simp only [List.map_toArray, List.map_cons, List.map_nil]); first | done | rfl | (simp only [List.length_drop, List.length_take]; rfl)) ?_; (with_reducible refine (value_Valid.calls a1_0 a1_1 a1_2 a1_3 true _ A100.out).mono ?_); rintro e w121 ⟨rfl, hb⟩; refine ⟨_, rfl, ?_⟩; have n0_ := Aside0.mk (blk_below (g := gb383) (o := .cells #[.int .i64 a0_0, .int .i64 a0_1, .string a0_2, .bool a0_3] 26 (0, 0)) (by (with_reducible repeat (first | refine blk_drewN ?_ _ | refine blk_drew ?_ | refine blk_alloc ?_ _)); exact BK383.out) hb); have n1_ := Aside0.mk (blk_below (g := gb384) (o := .cells #[.int .i64 a1_0, .int .i64 a1_1, .string a1_2, .bool a1_3] 26 (0, 0)) (by (with_reducible repeat (first | refine blk_drewN ?_ _ | refine blk_drew ?_ | refine blk_alloc ?_ _)); exact BK384.out) hb); have n2_ := Aside0.mk (blk_below (g := gb385) (o := .cells #[.int .i64 a2_0, .int .i64 a2_1, .string a2_2, .bool a2_3] 26 (0, 0)) (by (with_reducible repeat (first | refine blk_drewN ?_ _ | refine blk_drew ?_ | refine blk_alloc ?_ _)); exact BK385.out) hb); have n3_ := Aside0.mk (below_step (by repeat (first | (with_reducible first | exact HB.out | apply below_alloc | apply pw_below_drewN | apply below_drew1 | refine below_set ?_ GE383.out | refine below_set ?_ GE384.out | refine below_set ?_ GE385.out) | exact HB.out)) hb); clear BK383; clear BK384; clear BK385; clear HB; have BK383 := n0_; have BK384 := n1_; have BK385 := n2_; have HB := n3_; clear n0_ n1_ n2_ n3_; (try clear hb); (try clear hb2); (try clear hk); (try clear hi); have hcz122_0 : w121.cell? ⟨gb383, 0, none⟩ = some (.int .i64 a0_0) := (blk_cell BK383.out 0).trans rfl; have hcz122_1 : w121.cell? ⟨gb383, 1, none⟩ = some (.int .i64 a0_1) := (blk_cell BK383.out 1).trans rfl; have hcz122_2 : w121.cell? ⟨gb383, 2, none⟩ = some (.string a0_2) := (blk_cell BK383.out 2).trans rfl; have hcz122_3 : w121.cell? ⟨gb383, 3, none⟩ = some (.bool a0_3) := (blk_cell BK383.out 3).trans rfl; have hfz122_0 := blk_frozen BK383.out 0; have hfz122_1 := blk_frozen BK383.out 1; have hfz122_2 := blk_frozen BK383.out 2; have hfz122_3 := blk_frozen BK383.out 3; have hcz123_0 : w121.cell? ⟨gb384, 0, none⟩ = some (.int .i64 a1_0) := (blk_cell BK384.out 0).trans rfl; have hcz123_1 : w121.cell? ⟨gb384, 1, none⟩ = some (.int .i64 a1_1) := (blk_cell BK384.out 1).trans rfl; have hcz123_2 : w121.cell? ⟨gb384, 2, none⟩ = some (.string a1_2) := (blk_cell BK384.out 2).trans rfl; have hcz123_3 : w121.cell? ⟨gb384, 3, none⟩ = some (.bool a1_3) := (blk_cell BK384.out 3).trans rfl; have hfz123_0 := blk_frozen BK384.out 0; have hfz123_1 := blk_frozen BK384.out 1; have hfz123_2 := blk_frozen BK384.out 2; have hfz123_3 := blk_frozen BK384.out 3) | ((with_reducible refine gate_callee (f := 18) rfl ?_); refine goesL_ (some 95) rfl rfl Tryd.func18 (by kernel_rfl) rfl #[.agg #[.int .i64 a0_0, .int .i64 a0_1, .string a0_2, .bool a0_3], .agg #[.int .i64 a1_0, .int .i64 a1_1, .string a1_2, .bool a1_3]] rfl (by (try simp only [List.map_toArray, List.map_cons, List.map_nil]); first | done | rfl | (simp only [List.length_drop, List.length_take]; rfl)) ?_; (with_reducible refine (refrainlaw1_ordered.calls kj9 a0_0 a0_1 a0_2 a0_3 a1_0 a1_1 a1_2 a1_3 t393 _ ?side1 A114.out (by first | rfl | exact hr.out)).mono ?_); (case side1 => first | (with_reducible exact HL_LG0) | exact ⟨LG0.below HL_LG0.out (by repeat (first | (with_reducible first | exact HB.out | apply below_alloc | apply pw_below_drewN | apply below_drew1 | refine below_set ?_ GE383.out | refine below_set ?_ GE384.out | refine below_set ?_ GE385.out) | exact HB.out))⟩); rintro e w124 ⟨rfl, hb⟩; refine ⟨_, rfl, ?_⟩; have n0_ := Aside0.mk (blk_below (g := gb383) (o := .cells #[.int .i64 a0_0, .int .i64 a0_1, .string a0_2, .bool a0_3] 26 (0, 0)) (by (with_reducible repeat (first | refine blk_drewN ?_ _ | refine blk_drew ?_ | refine blk_alloc ?_ _)); exact BK383.out) hb); have n1_ := Aside0.mk (blk_below (g := gb384) (o := .cells #[.int .i64 a1_0, .int .i64 a1_1, .string a1_2, .bool a1_3] 26 (0, 0)) (by (with_reducible repeat (first | refine blk_drewN ?_ _ | refine blk_drew ?_ | refine blk_alloc ?_ _)); exact BK384.out) hb); have n2_ := Aside0.mk (blk_below (g := gb385) (o := .cells #[.int .i64 a2_0, .int .i64 a2_1, .string a2_2, .bool a2_3] 26 (0, 0)) (by (with_reducible repeat (first | refine blk_drewN ?_ _ | refine blk_drew ?_ | refine blk_alloc ?_ _)); exact BK385.out) hb); have n3_ := Aside0.mk (below_step (by repeat (first | (with_reducible first | exact HB.out | apply below_alloc | apply pw_below_drewN | apply below_drew1 | refine below_set ?_ GE383.out | refine below_set ?_ GE384.out | refine below_set ?_ GE385.out) | exact HB.out)) hb); clear BK383; clear BK384; clear BK385; clear HB; have BK383 := n0_; have BK384 := n1_; have BK385 := n2_; have HB := n3_; clear n0_ n1_ n2_ n3_; (try clear hb); (try clear hb2); (try clear hk); (try clear hi)))
                  (try any_goals (exfalso; first | (have h_ := c33b5.out; contradiction)))
                  go_ret
                  exact ⟨by first | rfl | (simp [errW_none, errW_some] <;> rfl) | (simp [*, errW_none, errW_some] <;> rfl), by repeat (first | (with_reducible first | exact HB.out | apply below_alloc | apply pw_below_drewN | apply below_drew1 | refine below_set ?_ GE383.out | refine below_set ?_ GE384.out | refine below_set ?_ GE385.out) | exact HB.out)⟩
              · rw [if_neg c103] at H
                have c103b0 : (a0_0 == a1_0) = false := beq_eq_false_iff_ne.mpr c103
                have c103b1 : (a0_0 != a1_0) = true := bne_iff_ne.mpr c103
                obtain rfl := Option.some.inj H
                have hnb125 := NB383_384.out
                have hnc125 := NB384_383.out
                have hnb126 := NB383_385.out
                have hnc126 := NB385_383.out
                have hcz127_0 : wc.cell? ⟨gb383, 0, none⟩ = some (.int .i64 a0_0) := (blk_cell BK383.out 0).trans rfl
                have hcz127_1 : wc.cell? ⟨gb383, 1, none⟩ = some (.int .i64 a0_1) := (blk_cell BK383.out 1).trans rfl
                have hcz127_2 : wc.cell? ⟨gb383, 2, none⟩ = some (.string a0_2) := (blk_cell BK383.out 2).trans rfl
                have hcz127_3 : wc.cell? ⟨gb383, 3, none⟩ = some (.bool a0_3) := (blk_cell BK383.out 3).trans rfl
                have hfz127_0 := blk_frozen BK383.out 0
                have hfz127_1 := blk_frozen BK383.out 1
                have hfz127_2 := blk_frozen BK383.out 2
                have hfz127_3 := blk_frozen BK383.out 3
                go_wp2_with (first | ((with_reducible refine gate_callee (f := 11) rfl ?_); refine goesL_ (some 74) rfl rfl Tryd.func11 (by kernel_rfl) rfl #[.agg #[.int .i64 a0_0, .int .i64 a0_1, .string a0_2, .bool a0_3]] rfl (by (try simp only [List.map_toArray, List.map_cons, List.map_nil]); first | done | rfl | (simp only [List.length_drop, List.length_take]; rfl)) ?_; (with_reducible refine (value_Valid.calls a0_0 a0_1 a0_2 a0_3 true _ A99.out).mono ?_); rintro e w128 ⟨rfl, hb⟩; refine ⟨_, rfl, ?_⟩; have n0_ := Aside0.mk (blk_below (g := gb383) (o := .cells #[.int .i64 a0_0, .int .i64 a0_1, .string a0_2, .bool a0_3] 26 (0, 0)) (by (with_reducible repeat (first | refine blk_drewN ?_ _ | refine blk_drew ?_ | refine blk_alloc ?_ _)); exact BK383.out) hb); have n1_ := Aside0.mk (blk_below (g := gb384) (o := .cells #[.int .i64 a1_0, .int .i64 a1_1, .string a1_2, .bool a1_3] 26 (0, 0)) (by (with_reducible repeat (first | refine blk_drewN ?_ _ | refine blk_drew ?_ | refine blk_alloc ?_ _)); exact BK384.out) hb); have n2_ := Aside0.mk (blk_below (g := gb385) (o := .cells #[.int .i64 a2_0, .int .i64 a2_1, .string a2_2, .bool a2_3] 26 (0, 0)) (by (with_reducible repeat (first | refine blk_drewN ?_ _ | refine blk_drew ?_ | refine blk_alloc ?_ _)); exact BK385.out) hb); have n3_ := Aside0.mk (below_step (by repeat (first | (with_reducible first | exact HB.out | apply below_alloc | apply pw_below_drewN | apply below_drew1 | refine below_set ?_ GE383.out | refine below_set ?_ GE384.out | refine below_set ?_ GE385.out) | exact HB.out)) hb); clear BK383; clear BK384; clear BK385; clear HB; have BK383 := n0_; have BK384 := n1_; have BK385 := n2_; have HB := n3_; clear n0_ n1_ n2_ n3_; (try clear hb); (try clear hb2); (try clear hk); (try clear hi); have hnb129 := NB384_385.out; have hnc129 := NB385_384.out; have hcz130_0 : w128.cell? ⟨gb384, 0, none⟩ = some (.int .i64 a1_0) := (blk_cell BK384.out 0).trans rfl; have hcz130_1 : w128.cell? ⟨gb384, 1, none⟩ = some (.int .i64 a1_1) := (blk_cell BK384.out 1).trans rfl; have hcz130_2 : w128.cell? ⟨gb384, 2, none⟩ = some (.string a1_2) := (blk_cell BK384.out 2).trans rfl; have hcz130_3 : w128.cell? ⟨gb384, 3, none⟩ = some (.bool a1_3) := (blk_cell BK384.out 3).trans rfl; have hfz130_0 := blk_frozen BK384.out 0; have hfz130_1 := blk_frozen BK384.out 1; have hfz130_2 := blk_frozen BK384.out 2; have hfz130_3 := blk_frozen BK384.out 3) | ((with_reducible refine gate_callee (f := 11) rfl ?_); refine goesL_ (some 76) rfl rfl Tryd.func11 (by kernel_rfl) rfl #[.agg #[.int .i64 a1_0, .int .i64 a1_1, .string a1_2, .bool a1_3]] rfl (by (try simp only [List.map_toArray, List.map_cons, List.map_nil]); first | done | rfl | (simp only [List.length_drop, List.length_take]; rfl)) ?_; (with_reducible refine (value_Valid.calls a1_0 a1_1 a1_2 a1_3 true _ A100.out).mono ?_); rintro e w131 ⟨rfl, hb⟩; refine ⟨_, rfl, ?_⟩; have n0_ := Aside0.mk (blk_below (g := gb383) (o := .cells #[.int .i64 a0_0, .int .i64 a0_1, .string a0_2, .bool a0_3] 26 (0, 0)) (by (with_reducible repeat (first | refine blk_drewN ?_ _ | refine blk_drew ?_ | refine blk_alloc ?_ _)); exact BK383.out) hb); have n1_ := Aside0.mk (blk_below (g := gb384) (o := .cells #[.int .i64 a1_0, .int .i64 a1_1, .string a1_2, .bool a1_3] 26 (0, 0)) (by (with_reducible repeat (first | refine blk_drewN ?_ _ | refine blk_drew ?_ | refine blk_alloc ?_ _)); exact BK384.out) hb); have n2_ := Aside0.mk (blk_below (g := gb385) (o := .cells #[.int .i64 a2_0, .int .i64 a2_1, .string a2_2, .bool a2_3] 26 (0, 0)) (by (with_reducible repeat (first | refine blk_drewN ?_ _ | refine blk_drew ?_ | refine blk_alloc ?_ _)); exact BK385.out) hb); have n3_ := Aside0.mk (below_step (by repeat (first | (with_reducible first | exact HB.out | apply below_alloc | apply pw_below_drewN | apply below_drew1 | refine below_set ?_ GE383.out | refine below_set ?_ GE384.out | refine below_set ?_ GE385.out) | exact HB.out)) hb); clear BK383; clear BK384; clear BK385; clear HB; have BK383 := n0_; have BK384 := n1_; have BK385 := n2_; have HB := n3_; clear n0_ n1_ n2_ n3_; (try clear hb); (try clear hb2); (try clear hk); (try clear hi); have hcz132_0 : w131.cell? ⟨gb383, 0, none⟩ = some (.int .i64 a0_0) := (blk_cell BK383.out 0).trans rfl; have hcz132_1 : w131.cell? ⟨gb383, 1, none⟩ = some (.int .i64 a0_1) := (blk_cell BK383.out 1).trans rfl; have hcz132_2 : w131.cell? ⟨gb383, 2, none⟩ = some (.string a0_2) := (blk_cell BK383.out 2).trans rfl; have hcz132_3 : w131.cell? ⟨gb383, 3, none⟩ = some (.bool a0_3) := (blk_cell BK383.out 3).trans rfl; have hfz132_0 := blk_frozen BK383.out 0; have hfz132_1 := blk_frozen BK383.out 1; have hfz132_2 := blk_frozen BK383.out 2; have hfz132_3 := blk_frozen BK383.out 3; have hcz133_0 : w131.cell? ⟨gb384, 0, none⟩ = some (.int .i64 a1_0) := (blk_cell BK384.out 0).trans rfl; have hcz133_1 : w131.cell? ⟨gb384, 1, none⟩ = some (.int .i64 a1_1) := (blk_cell BK384.out 1).trans rfl; have hcz133_2 : w131.cell? ⟨gb384, 2, none⟩ = some (.string a1_2) := (blk_cell BK384.out 2).trans rfl; have hcz133_3 : w131.cell? ⟨gb384, 3, none⟩ = some (.bool a1_3) := (blk_cell BK384.out 3).trans rfl; have hfz133_0 := blk_frozen BK384.out 0; have hfz133_1 := blk_frozen BK384.out 1; have hfz133_2 := blk_frozen BK384.out 2; have hfz133_3 := blk_frozen BK384.out 3))
                (try any_goals (exfalso; first | (have h_ := c33b5.out; contradiction)))
                go_ret
                exact ⟨by first | rfl | (simp [errW_none, errW_some] <;> rfl) | (simp [*, errW_none, errW_some] <;> rfl), by repeat (first | (with_reducible first | exact HB.out | apply below_alloc | apply pw_below_drewN | apply below_drew1 | refine below_set ?_ GE383.out | refine below_set ?_ GE384.out | refine below_set ?_ GE385.out) | exact HB.out)⟩
            · replace c102 := Bool.eq_false_iff.mpr c102
              subst c102
              have H1 : (some true) = some r := by rw [if_neg (show ¬ (false = true) by decide)] at H; exact H
              clear H
              have H := H1
              clear H1
              obtain rfl := Option.some.inj H
              have hnb134 := NB383_384.out
              have hnc134 := NB384_383.out
              have hnb135 := NB383_385.out
              have hnc135 := NB385_383.out
              have hcz136_0 : wc.cell? ⟨gb383, 0, none⟩ = some (.int .i64 a0_0) := (blk_cell BK383.out 0).trans rfl
              have hcz136_1 : wc.cell? ⟨gb383, 1, none⟩ = some (.int .i64 a0_1) := (blk_cell BK383.out 1).trans rfl
              have hcz136_2 : wc.cell? ⟨gb383, 2, none⟩ = some (.string a0_2) := (blk_cell BK383.out 2).trans rfl
              have hcz136_3 : wc.cell? ⟨gb383, 3, none⟩ = some (.bool a0_3) := (blk_cell BK383.out 3).trans rfl
              have hfz136_0 := blk_frozen BK383.out 0
              have hfz136_1 := blk_frozen BK383.out 1
              have hfz136_2 := blk_frozen BK383.out 2
              have hfz136_3 := blk_frozen BK383.out 3
              go_wp2_with (first | ((with_reducible refine gate_callee (f := 11) rfl ?_); refine goesL_ (some 74) rfl rfl Tryd.func11 (by kernel_rfl) rfl #[.agg #[.int .i64 a0_0, .int .i64 a0_1, .string a0_2, .bool a0_3]] rfl (by (try simp only [List.map_toArray, List.map_cons, List.map_nil]); first | done | rfl | (simp only [List.length_drop, List.length_take]; rfl)) ?_; (with_reducible refine (value_Valid.calls a0_0 a0_1 a0_2 a0_3 true _ A99.out).mono ?_); rintro e w137 ⟨rfl, hb⟩; refine ⟨_, rfl, ?_⟩; have n0_ := Aside0.mk (blk_below (g := gb383) (o := .cells #[.int .i64 a0_0, .int .i64 a0_1, .string a0_2, .bool a0_3] 26 (0, 0)) (by (with_reducible repeat (first | refine blk_drewN ?_ _ | refine blk_drew ?_ | refine blk_alloc ?_ _)); exact BK383.out) hb); have n1_ := Aside0.mk (blk_below (g := gb384) (o := .cells #[.int .i64 a1_0, .int .i64 a1_1, .string a1_2, .bool a1_3] 26 (0, 0)) (by (with_reducible repeat (first | refine blk_drewN ?_ _ | refine blk_drew ?_ | refine blk_alloc ?_ _)); exact BK384.out) hb); have n2_ := Aside0.mk (blk_below (g := gb385) (o := .cells #[.int .i64 a2_0, .int .i64 a2_1, .string a2_2, .bool a2_3] 26 (0, 0)) (by (with_reducible repeat (first | refine blk_drewN ?_ _ | refine blk_drew ?_ | refine blk_alloc ?_ _)); exact BK385.out) hb); have n3_ := Aside0.mk (below_step (by repeat (first | (with_reducible first | exact HB.out | apply below_alloc | apply pw_below_drewN | apply below_drew1 | refine below_set ?_ GE383.out | refine below_set ?_ GE384.out | refine below_set ?_ GE385.out) | exact HB.out)) hb); clear BK383; clear BK384; clear BK385; clear HB; have BK383 := n0_; have BK384 := n1_; have BK385 := n2_; have HB := n3_; clear n0_ n1_ n2_ n3_; (try clear hb); (try clear hb2); (try clear hk); (try clear hi); have hnb138 := NB384_385.out; have hnc138 := NB385_384.out; have hcz139_0 : w137.cell? ⟨gb384, 0, none⟩ = some (.int .i64 a1_0) := (blk_cell BK384.out 0).trans rfl; have hcz139_1 : w137.cell? ⟨gb384, 1, none⟩ = some (.int .i64 a1_1) := (blk_cell BK384.out 1).trans rfl; have hcz139_2 : w137.cell? ⟨gb384, 2, none⟩ = some (.string a1_2) := (blk_cell BK384.out 2).trans rfl; have hcz139_3 : w137.cell? ⟨gb384, 3, none⟩ = some (.bool a1_3) := (blk_cell BK384.out 3).trans rfl; have hfz139_0 := blk_frozen BK384.out 0; have hfz139_1 := blk_frozen BK384.out 1; have hfz139_2 := blk_frozen BK384.out 2; have hfz139_3 := blk_frozen BK384.out 3) | ((with_reducible refine gate_callee (f := 11) rfl ?_); refine goesL_ (some 76) rfl rfl Tryd.func11 (by kernel_rfl) rfl #[.agg #[.int .i64 a1_0, .int .i64 a1_1, .string a1_2, .bool a1_3]] rfl (by (try simp only [List.map_toArray, List.map_cons, List.map_nil]); first | done | rfl | (simp only [List.length_drop, List.length_take]; rfl)) ?_; (with_reducible refine (value_Valid.calls a1_0 a1_1 a1_2 a1_3 false _ A100.out).mono ?_); rintro e w140 ⟨rfl, hb⟩; refine ⟨_, rfl, ?_⟩; have n0_ := Aside0.mk (blk_below (g := gb383) (o := .cells #[.int .i64 a0_0, .int .i64 a0_1, .string a0_2, .bool a0_3] 26 (0, 0)) (by (with_reducible repeat (first | refine blk_drewN ?_ _ | refine blk_drew ?_ | refine blk_alloc ?_ _)); exact BK383.out) hb); have n1_ := Aside0.mk (blk_below (g := gb384) (o := .cells #[.int .i64 a1_0, .int .i64 a1_1, .string a1_2, .bool a1_3] 26 (0, 0)) (by (with_reducible repeat (first | refine blk_drewN ?_ _ | refine blk_drew ?_ | refine blk_alloc ?_ _)); exact BK384.out) hb); have n2_ := Aside0.mk (blk_below (g := gb385) (o := .cells #[.int .i64 a2_0, .int .i64 a2_1, .string a2_2, .bool a2_3] 26 (0, 0)) (by (with_reducible repeat (first | refine blk_drewN ?_ _ | refine blk_drew ?_ | refine blk_alloc ?_ _)); exact BK385.out) hb); have n3_ := Aside0.mk (below_step (by repeat (first | (with_reducible first | exact HB.out | apply below_alloc | apply pw_below_drewN | apply below_drew1 | refine below_set ?_ GE383.out | refine below_set ?_ GE384.out | refine below_set ?_ GE385.out) | exact HB.out)) hb); clear BK383; clear BK384; clear BK385; clear HB; have BK383 := n0_; have BK384 := n1_; have BK385 := n2_; have HB := n3_; clear n0_ n1_ n2_ n3_; (try clear hb); (try clear hb2); (try clear hk); (try clear hi)))
              (try any_goals (exfalso; first | (have h_ := c33b5.out; contradiction)))
              go_ret
              exact ⟨by first | rfl | (simp [errW_none, errW_some] <;> rfl) | (simp [*, errW_none, errW_some] <;> rfl), by repeat (first | (with_reducible first | exact HB.out | apply below_alloc | apply pw_below_drewN | apply below_drew1 | refine below_set ?_ GE383.out | refine below_set ?_ GE384.out | refine below_set ?_ GE385.out) | exact HB.out)⟩
          · replace c101 := Bool.eq_false_iff.mpr c101
            subst c101
            have H1 : (some true) = some r := by rw [if_neg (show ¬ (false = true) by decide)] at H; exact H
            clear H
            have H := H1
            clear H1
            obtain rfl := Option.some.inj H
            have hnb141 := NB383_384.out
            have hnc141 := NB384_383.out
            have hnb142 := NB383_385.out
            have hnc142 := NB385_383.out
            have hcz143_0 : wc.cell? ⟨gb383, 0, none⟩ = some (.int .i64 a0_0) := (blk_cell BK383.out 0).trans rfl
            have hcz143_1 : wc.cell? ⟨gb383, 1, none⟩ = some (.int .i64 a0_1) := (blk_cell BK383.out 1).trans rfl
            have hcz143_2 : wc.cell? ⟨gb383, 2, none⟩ = some (.string a0_2) := (blk_cell BK383.out 2).trans rfl
            have hcz143_3 : wc.cell? ⟨gb383, 3, none⟩ = some (.bool a0_3) := (blk_cell BK383.out 3).trans rfl
            have hfz143_0 := blk_frozen BK383.out 0
            have hfz143_1 := blk_frozen BK383.out 1
            have hfz143_2 := blk_frozen BK383.out 2
            have hfz143_3 := blk_frozen BK383.out 3
            go_wp2_with (first | ((with_reducible refine gate_callee (f := 11) rfl ?_); refine goesL_ (some 74) rfl rfl Tryd.func11 (by kernel_rfl) rfl #[.agg #[.int .i64 a0_0, .int .i64 a0_1, .string a0_2, .bool a0_3]] rfl (by (try simp only [List.map_toArray, List.map_cons, List.map_nil]); first | done | rfl | (simp only [List.length_drop, List.length_take]; rfl)) ?_; (with_reducible refine (value_Valid.calls a0_0 a0_1 a0_2 a0_3 false _ A99.out).mono ?_); rintro e w144 ⟨rfl, hb⟩; refine ⟨_, rfl, ?_⟩; have n0_ := Aside0.mk (blk_below (g := gb383) (o := .cells #[.int .i64 a0_0, .int .i64 a0_1, .string a0_2, .bool a0_3] 26 (0, 0)) (by (with_reducible repeat (first | refine blk_drewN ?_ _ | refine blk_drew ?_ | refine blk_alloc ?_ _)); exact BK383.out) hb); have n1_ := Aside0.mk (blk_below (g := gb384) (o := .cells #[.int .i64 a1_0, .int .i64 a1_1, .string a1_2, .bool a1_3] 26 (0, 0)) (by (with_reducible repeat (first | refine blk_drewN ?_ _ | refine blk_drew ?_ | refine blk_alloc ?_ _)); exact BK384.out) hb); have n2_ := Aside0.mk (blk_below (g := gb385) (o := .cells #[.int .i64 a2_0, .int .i64 a2_1, .string a2_2, .bool a2_3] 26 (0, 0)) (by (with_reducible repeat (first | refine blk_drewN ?_ _ | refine blk_drew ?_ | refine blk_alloc ?_ _)); exact BK385.out) hb); have n3_ := Aside0.mk (below_step (by repeat (first | (with_reducible first | exact HB.out | apply below_alloc | apply pw_below_drewN | apply below_drew1 | refine below_set ?_ GE383.out | refine below_set ?_ GE384.out | refine below_set ?_ GE385.out) | exact HB.out)) hb); clear BK383; clear BK384; clear BK385; clear HB; have BK383 := n0_; have BK384 := n1_; have BK385 := n2_; have HB := n3_; clear n0_ n1_ n2_ n3_; (try clear hb); (try clear hb2); (try clear hk); (try clear hi); have hnb145 := NB384_385.out; have hnc145 := NB385_384.out; have hcz146_0 : w144.cell? ⟨gb384, 0, none⟩ = some (.int .i64 a1_0) := (blk_cell BK384.out 0).trans rfl; have hcz146_1 : w144.cell? ⟨gb384, 1, none⟩ = some (.int .i64 a1_1) := (blk_cell BK384.out 1).trans rfl; have hcz146_2 : w144.cell? ⟨gb384, 2, none⟩ = some (.string a1_2) := (blk_cell BK384.out 2).trans rfl; have hcz146_3 : w144.cell? ⟨gb384, 3, none⟩ = some (.bool a1_3) := (blk_cell BK384.out 3).trans rfl; have hfz146_0 := blk_frozen BK384.out 0; have hfz146_1 := blk_frozen BK384.out 1; have hfz146_2 := blk_frozen BK384.out 2; have hfz146_3 := blk_frozen BK384.out 3) | ((with_reducible refine gate_callee (f := 11) rfl ?_); refine goesL_ (some 76) rfl rfl Tryd.func11 (by kernel_rfl) rfl #[.agg #[.int .i64 a1_0, .int .i64 a1_1, .string a1_2, .bool a1_3]] rfl (by (try simp only [List.map_toArray, List.map_cons, List.map_nil]); first | done | rfl | (simp only [List.length_drop, List.length_take]; rfl)) ?_; (with_reducible refine (value_Valid.calls a1_0 a1_1 a1_2 a1_3 t392 _ A100.out).mono ?_); rintro e w147 ⟨rfl, hb⟩; refine ⟨_, rfl, ?_⟩; have n0_ := Aside0.mk (blk_below (g := gb383) (o := .cells #[.int .i64 a0_0, .int .i64 a0_1, .string a0_2, .bool a0_3] 26 (0, 0)) (by (with_reducible repeat (first | refine blk_drewN ?_ _ | refine blk_drew ?_ | refine blk_alloc ?_ _)); exact BK383.out) hb); have n1_ := Aside0.mk (blk_below (g := gb384) (o := .cells #[.int .i64 a1_0, .int .i64 a1_1, .string a1_2, .bool a1_3] 26 (0, 0)) (by (with_reducible repeat (first | refine blk_drewN ?_ _ | refine blk_drew ?_ | refine blk_alloc ?_ _)); exact BK384.out) hb); have n2_ := Aside0.mk (blk_below (g := gb385) (o := .cells #[.int .i64 a2_0, .int .i64 a2_1, .string a2_2, .bool a2_3] 26 (0, 0)) (by (with_reducible repeat (first | refine blk_drewN ?_ _ | refine blk_drew ?_ | refine blk_alloc ?_ _)); exact BK385.out) hb); have n3_ := Aside0.mk (below_step (by repeat (first | (with_reducible first | exact HB.out | apply below_alloc | apply pw_below_drewN | apply below_drew1 | refine below_set ?_ GE383.out | refine below_set ?_ GE384.out | refine below_set ?_ GE385.out) | exact HB.out)) hb); clear BK383; clear BK384; clear BK385; clear HB; have BK383 := n0_; have BK384 := n1_; have BK385 := n2_; have HB := n3_; clear n0_ n1_ n2_ n3_; (try clear hb); (try clear hb2); (try clear hk); (try clear hi)))
            (try any_goals (exfalso; first | (have h_ := c33b5.out; contradiction)))
            go_ret
            exact ⟨by first | rfl | (simp [errW_none, errW_some] <;> rfl) | (simp [*, errW_none, errW_some] <;> rfl), by repeat (first | (with_reducible first | exact HB.out | apply below_alloc | apply pw_below_drewN | apply below_drew1 | refine below_set ?_ GE383.out | refine below_set ?_ GE384.out | refine below_set ?_ GE385.out) | exact HB.out)⟩
  · replace c5 := Bool.eq_false_iff.mpr c5
    subst c5
    have H1 : (some false) = some r := by rw [if_neg (show ¬ (false = true) by decide)] at H; exact H
    clear H
    have H := H1
    clear H1
    exact absurd ((Option.some.inj H).trans hr.out) Bool.false_ne_true

end Go.Proofs.YthhpeeckiggpaaaDoor.Pr

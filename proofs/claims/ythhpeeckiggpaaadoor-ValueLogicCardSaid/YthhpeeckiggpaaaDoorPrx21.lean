-- printed by a patched copy of the kit's print, for this seat
import Derived.Test.YthhpeeckiggpaaaDoorPrx0
import Derived.Test.YthhpeeckiggpaaaDoorPrx1
import Derived.Test.YthhpeeckiggpaaaDoorPrx8
import Derived.Test.YthhpeeckiggpaaaDoorPrx13
import Derived.Test.YthhpeeckiggpaaaDoorPrx16
namespace Go.Proofs.YthhpeeckiggpaaaDoor.Pr
open Go.RowKit Go.Proofs.YthhpeeckiggpaaaDoorW.PrintWords Go.Proofs.YthhpeeckiggpaaaDoorW.PrintLast Go.Proofs.YthhpeeckiggpaaaDoorW.PrintMore
attribute [local go_sem] max2_int min2_int max_two min_two max_three min_three max_four min_four   -- for this text's walks alone
attribute [local go_sem high] Go.Proofs.YthhpeeckiggpaaaDoor.isSome_setCell
set_option maxRecDepth 100000
set_option linter.unusedVariables false
set_option linter.unusedSimpArgs false

attribute [local go_sem high] eqA26
/-! ### refrainlaw1_ValueLogic: function 9 -/
/-- A block that no store of late has met (by reducible matching first: a default one unfolds the whole world at each step). -/
theorem bfT2 {w W : World} {g g' : Nat} {o : Obj} (hne : g ≠ g') (h : w.heap[g]? = some o) (k : g ≠ g' → w.heap[g]? = some o → W.heap[g]? = some o := by intro n_ h_; repeat (first | (with_reducible exact h_) | (with_reducible refine blk_far ?_ n_ _) | (with_reducible refine blk_drewN ?_ _) | (with_reducible refine blk_drew ?_) | (with_reducible refine blk_alloc ?_ _) | exact h_ | refine blk_far ?_ n_ _ | refine blk_drewN ?_ _ | refine blk_drew ?_ | refine blk_alloc ?_ _)) : W.heap[g]? = some o := k hne h
mutual
def refrainlaw1_ValueLogic.j0 : Nat → Bool → Bool → Bool → Int → Int → ByteArray → Bool → Int → Int → ByteArray → Bool → Int → Int → ByteArray → Bool → Int → Int → ByteArray → Bool → Int → Int → ByteArray → Bool → Int → Int → ByteArray → Bool → Option (Bool)
  | 0, _, _, _, _, _, _, _, _, _, _, _, _, _, _, _, _, _, _, _, _, _, _, _, _, _, _, _ => none
  | k + 1, x0, x1, x65, x514000, x514001, x514002, x514003, x515000, x515001, x515002, x515003, x517000, x517001, x517002, x517003, x518000, x518001, x518002, x518003, x524000, x524001, x524002, x524003, x530000, x530001, x530002, x530003 => if x65 = true then (some false) else (if x0 = true then ((refrainlaw1_yes.f k 12 x517000 x517001 x517002 x517003 x518000 x518001 x518002 x518003 x1).bind fun t536 => (if t536 = true then ((refrainlaw1_yes.f k 13 x517000 x517001 x517002 x517003 x518000 x518001 x518002 x518003 true).bind fun t537 => (if t537 = true then ((refrainlaw1_yes.f k 12 x524000 x524001 x524002 x524003 x530000 x530001 x530002 x530003 false).bind fun t538 => (if t538 = true then ((refrainlaw1_yes.f k 13 x524000 x524001 x524002 x524003 x530000 x530001 x530002 x530003 (!x1)).bind fun t539 => (refrainlaw1_ValueLogic.j1 k (!t539) x514000 x514001 x514002 x514003 x515000 x515001 x515002 x515003)) else (refrainlaw1_ValueLogic.j1 k true x514000 x514001 x514002 x514003 x515000 x515001 x515002 x515003))) else (refrainlaw1_ValueLogic.j1 k true x514000 x514001 x514002 x514003 x515000 x515001 x515002 x515003))) else (refrainlaw1_ValueLogic.j1 k true x514000 x514001 x514002 x514003 x515000 x515001 x515002 x515003))) else ((refrainlaw1_yes.f k 12 x517000 x517001 x517002 x517003 x518000 x518001 x518002 x518003 false).bind fun t540 => (if t540 = true then ((refrainlaw1_yes.f k 13 x517000 x517001 x517002 x517003 x518000 x518001 x518002 x518003 x1).bind fun t541 => (if t541 = true then ((refrainlaw1_yes.f k 12 x524000 x524001 x524002 x524003 x530000 x530001 x530002 x530003 (!x1)).bind fun t542 => (if t542 = true then ((refrainlaw1_yes.f k 13 x524000 x524001 x524002 x524003 x530000 x530001 x530002 x530003 true).bind fun t543 => (refrainlaw1_ValueLogic.j1 k (!t543) x514000 x514001 x514002 x514003 x515000 x515001 x515002 x515003)) else (refrainlaw1_ValueLogic.j1 k true x514000 x514001 x514002 x514003 x515000 x515001 x515002 x515003))) else (refrainlaw1_ValueLogic.j1 k true x514000 x514001 x514002 x514003 x515000 x515001 x515002 x515003))) else (refrainlaw1_ValueLogic.j1 k true x514000 x514001 x514002 x514003 x515000 x515001 x515002 x515003))))
def refrainlaw1_ValueLogic.j1 : Nat → Bool → Int → Int → ByteArray → Bool → Int → Int → ByteArray → Bool → Option (Bool)
  | 0, _, _, _, _, _, _, _, _, _ => none
  | k + 1, x105, x514000, x514001, x514002, x514003, x515000, x515001, x515002, x515003 => if x105 = true then (some false) else (refrainlaw1_ValueLogic.l0 k 0 x514000 x514001 x514002 x514003 x515000 x515001 x515002 x515003 6 7 8 11 10 9)
def refrainlaw1_ValueLogic.l0 : Nat → Int → Int → Int → ByteArray → Bool → Int → Int → ByteArray → Bool → Int → Int → Int → Int → Int → Int → Option (Bool)
  | 0, _, _, _, _, _, _, _, _, _, _, _, _, _, _, _ => none
  | k + 1, x19, x514000, x514001, x514002, x514003, x515000, x515001, x515002, x515003, x545000, x545001, x545002, x545003, x545004, x545005 => if x19 < 3 then (if 0 ≤ x19 then ((value_Binary.f k (rd ([x545000, x545002, x545004] : List Int) x19) x514000 x514001 x514002 x514003 x515000 x515001 x515002 x515003).bind fun bt545 => ((value_Binary.f k (rd ([x545001, x545003, x545005] : List Int) x19) x514000 x514001 x514002 x514003 x515000 x515001 x515002 x515003).bind fun bt551 => (if bt545.2.2.2.2 = bt551.2.2.2.2 then (if bt545.2.2.2.2 = 0 then (if (bt545.2.2.2.1 == bt551.2.2.2.1) = true then (some false) else (refrainlaw1_ValueLogic.l0 k (wrap64 (x19 + 1)) x514000 x514001 x514002 x514003 x515000 x515001 x515002 x515003 x545000 x545001 x545002 x545003 x545004 x545005)) else (refrainlaw1_ValueLogic.l0 k (wrap64 (x19 + 1)) x514000 x514001 x514002 x514003 x515000 x515001 x515002 x515003 x545000 x545001 x545002 x545003 x545004 x545005)) else (some false)))) else (none)) else (some true)
end
def refrainlaw1_ValueLogic.f (k : Nat) (a0 : Bool) (a1 : Bool) (a2_0 : Int) (a2_1 : Int) (a2_2 : ByteArray) (a2_3 : Bool) (a3_0 : Int) (a3_1 : Int) (a3_2 : ByteArray) (a3_3 : Bool) : Option (Bool) := (refrainlaw1_begun.f k).bind fun t515 => (if t515 = true then ((value_Unary.f k 2 3 0 (⟨#[]⟩ : ByteArray) a0).bind fun bt518 => ((value_Unary.f k 2 3 0 (⟨#[]⟩ : ByteArray) a1).bind fun bt524 => ((value_Unary.f k 2 bt518.1 bt518.2.1 bt518.2.2.1 bt518.2.2.2.1).bind fun bt530 => (if bt518.2.2.2.2 = 0 then (if bt524.2.2.2.2 = 0 then (if bt530.2.2.2.2 = 0 then (if (!(bt530.1 == 3) || (!(bt530.2.1 == 0) || (!(bt530.2.2.1.toList == ([] : List UInt8)) || (!(bt530.2.2.2.1 == a0))))) = true then (refrainlaw1_ValueLogic.j0 k a0 a1 true a2_0 a2_1 a2_2 a2_3 a3_0 a3_1 a3_2 a3_3 3 0 (⟨#[]⟩ : ByteArray) a0 3 0 (⟨#[]⟩ : ByteArray) a1 bt518.1 bt518.2.1 bt518.2.2.1 bt518.2.2.2.1 bt524.1 bt524.2.1 bt524.2.2.1 bt524.2.2.2.1) else (refrainlaw1_ValueLogic.j0 k a0 a1 (bt518.1 == 3 && (bt518.2.1 == 0 && (bt518.2.2.1.toList == ([] : List UInt8) && (bt518.2.2.2.1 == a0)))) a2_0 a2_1 a2_2 a2_3 a3_0 a3_1 a3_2 a3_3 3 0 (⟨#[]⟩ : ByteArray) a0 3 0 (⟨#[]⟩ : ByteArray) a1 bt518.1 bt518.2.1 bt518.2.2.1 bt518.2.2.2.1 bt524.1 bt524.2.1 bt524.2.2.1 bt524.2.2.2.1)) else (refrainlaw1_ValueLogic.j0 k a0 a1 true a2_0 a2_1 a2_2 a2_3 a3_0 a3_1 a3_2 a3_3 3 0 (⟨#[]⟩ : ByteArray) a0 3 0 (⟨#[]⟩ : ByteArray) a1 bt518.1 bt518.2.1 bt518.2.2.1 bt518.2.2.2.1 bt524.1 bt524.2.1 bt524.2.2.1 bt524.2.2.2.1)) else (refrainlaw1_ValueLogic.j0 k a0 a1 true a2_0 a2_1 a2_2 a2_3 a3_0 a3_1 a3_2 a3_3 3 0 (⟨#[]⟩ : ByteArray) a0 3 0 (⟨#[]⟩ : ByteArray) a1 bt518.1 bt518.2.1 bt518.2.2.1 bt518.2.2.2.1 bt524.1 bt524.2.1 bt524.2.2.1 bt524.2.2.2.1)) else (refrainlaw1_ValueLogic.j0 k a0 a1 true a2_0 a2_1 a2_2 a2_3 a3_0 a3_1 a3_2 a3_3 3 0 (⟨#[]⟩ : ByteArray) a0 3 0 (⟨#[]⟩ : ByteArray) a1 bt518.1 bt518.2.1 bt518.2.2.1 bt518.2.2.2.1 bt524.1 bt524.2.1 bt524.2.2.1 bt524.2.2.2.1))))) else (some false))
set_option maxRecDepth 100000 in
theorem refrainlaw1_ValueLogic.j0_zero : ∀ y0 y1 y2 y3 y4 y5 y6 y7 y8 y9 y10 y11 y12 y13 y14 y15 y16 y17 y18 y19 y20 y21 y22 y23 y24 y25 y26, refrainlaw1_ValueLogic.j0 0 y0 y1 y2 y3 y4 y5 y6 y7 y8 y9 y10 y11 y12 y13 y14 y15 y16 y17 y18 y19 y20 y21 y22 y23 y24 y25 y26 = none := fun _ _ _ _ _ _ _ _ _ _ _ _ _ _ _ _ _ _ _ _ _ _ _ _ _ _ _ => rfl
set_option maxRecDepth 100000 in
theorem refrainlaw1_ValueLogic.j1_zero : ∀ y0 y1 y2 y3 y4 y5 y6 y7 y8, refrainlaw1_ValueLogic.j1 0 y0 y1 y2 y3 y4 y5 y6 y7 y8 = none := fun _ _ _ _ _ _ _ _ _ => rfl
set_option maxRecDepth 100000 in
theorem refrainlaw1_ValueLogic.l0_zero : ∀ y0 y1 y2 y3 y4 y5 y6 y7 y8 y9 y10 y11 y12 y13 y14, refrainlaw1_ValueLogic.l0 0 y0 y1 y2 y3 y4 y5 y6 y7 y8 y9 y10 y11 y12 y13 y14 = none := fun _ _ _ _ _ _ _ _ _ _ _ _ _ _ _ => rfl
set_option maxRecDepth 100000 in
theorem refrainlaw1_ValueLogic.mono_l : ∀ k, (∀ y0 y1 y2 y3 y4 y5 y6 y7 y8 y9 y10 y11 y12 y13 y14 y15 y16 y17 y18 y19 y20 y21 y22 y23 y24 y25 y26, LeO (refrainlaw1_ValueLogic.j0 k y0 y1 y2 y3 y4 y5 y6 y7 y8 y9 y10 y11 y12 y13 y14 y15 y16 y17 y18 y19 y20 y21 y22 y23 y24 y25 y26) (refrainlaw1_ValueLogic.j0 (k + 1) y0 y1 y2 y3 y4 y5 y6 y7 y8 y9 y10 y11 y12 y13 y14 y15 y16 y17 y18 y19 y20 y21 y22 y23 y24 y25 y26)) ∧ (∀ y0 y1 y2 y3 y4 y5 y6 y7 y8, LeO (refrainlaw1_ValueLogic.j1 k y0 y1 y2 y3 y4 y5 y6 y7 y8) (refrainlaw1_ValueLogic.j1 (k + 1) y0 y1 y2 y3 y4 y5 y6 y7 y8)) ∧ (∀ y0 y1 y2 y3 y4 y5 y6 y7 y8 y9 y10 y11 y12 y13 y14, LeO (refrainlaw1_ValueLogic.l0 k y0 y1 y2 y3 y4 y5 y6 y7 y8 y9 y10 y11 y12 y13 y14) (refrainlaw1_ValueLogic.l0 (k + 1) y0 y1 y2 y3 y4 y5 y6 y7 y8 y9 y10 y11 y12 y13 y14))
  | 0 => ⟨fun _ _ _ _ _ _ _ _ _ _ _ _ _ _ _ _ _ _ _ _ _ _ _ _ _ _ _ r h => by (unfold refrainlaw1_ValueLogic.j0 at h; cases h), fun _ _ _ _ _ _ _ _ _ r h => by (unfold refrainlaw1_ValueLogic.j1 at h; cases h), fun _ _ _ _ _ _ _ _ _ _ _ _ _ _ _ r h => by (unfold refrainlaw1_ValueLogic.l0 at h; cases h)⟩
  | k + 1 => by
    obtain ⟨ih0, ih1, ih2⟩ := refrainlaw1_ValueLogic.mono_l k
    refine ⟨?_, ?_, ?_⟩
    · intro y0 y1 y2 y3 y4 y5 y6 y7 y8 y9 y10 y11 y12 y13 y14 y15 y16 y17 y18 y19 y20 y21 y22 y23 y24 y25 y26
      unfold refrainlaw1_ValueLogic.j0
      repeat' first
      | (with_reducible exact ih0 _ _ _ _ _ _ _ _ _ _ _ _ _ _ _ _ _ _ _ _ _ _ _ _ _ _ _)
      | (with_reducible exact ih1 _ _ _ _ _ _ _ _ _)
      | (with_reducible exact ih2 _ _ _ _ _ _ _ _ _ _ _ _ _ _ _)
      | (with_reducible exact refrainlaw1_begun.mono _)
      | (with_reducible exact refrainlaw1_yes.mono _ _ _ _ _ _ _ _ _ _ _)
      | (with_reducible exact value_Binary.mono _ _ _ _ _ _ _ _ _ _)
      | (with_reducible exact value_Unary.mono _ _ _ _ _ _)
      | (with_reducible exact LeO.refl _)
      | (with_reducible exact LeO.none _)
      | (with_reducible refine LeO.ite ?_ ?_)
      | (with_reducible refine LeO.bind ?_ (fun _ => ?_))
      | exact ih0 _ _ _ _ _ _ _ _ _ _ _ _ _ _ _ _ _ _ _ _ _ _ _ _ _ _ _
      | exact ih1 _ _ _ _ _ _ _ _ _
      | exact ih2 _ _ _ _ _ _ _ _ _ _ _ _ _ _ _
      | exact refrainlaw1_begun.mono _
      | exact refrainlaw1_yes.mono _ _ _ _ _ _ _ _ _ _ _
      | exact value_Binary.mono _ _ _ _ _ _ _ _ _ _
      | exact value_Unary.mono _ _ _ _ _ _
      | exact LeO.none _
      | refine LeO.ite ?_ ?_
      | refine LeO.bind ?_ (fun _ => ?_)
    · intro y0 y1 y2 y3 y4 y5 y6 y7 y8
      unfold refrainlaw1_ValueLogic.j1
      repeat' first
      | (with_reducible exact ih0 _ _ _ _ _ _ _ _ _ _ _ _ _ _ _ _ _ _ _ _ _ _ _ _ _ _ _)
      | (with_reducible exact ih1 _ _ _ _ _ _ _ _ _)
      | (with_reducible exact ih2 _ _ _ _ _ _ _ _ _ _ _ _ _ _ _)
      | (with_reducible exact refrainlaw1_begun.mono _)
      | (with_reducible exact refrainlaw1_yes.mono _ _ _ _ _ _ _ _ _ _ _)
      | (with_reducible exact value_Binary.mono _ _ _ _ _ _ _ _ _ _)
      | (with_reducible exact value_Unary.mono _ _ _ _ _ _)
      | (with_reducible exact LeO.refl _)
      | (with_reducible exact LeO.none _)
      | (with_reducible refine LeO.ite ?_ ?_)
      | (with_reducible refine LeO.bind ?_ (fun _ => ?_))
      | exact ih0 _ _ _ _ _ _ _ _ _ _ _ _ _ _ _ _ _ _ _ _ _ _ _ _ _ _ _
      | exact ih1 _ _ _ _ _ _ _ _ _
      | exact ih2 _ _ _ _ _ _ _ _ _ _ _ _ _ _ _
      | exact refrainlaw1_begun.mono _
      | exact refrainlaw1_yes.mono _ _ _ _ _ _ _ _ _ _ _
      | exact value_Binary.mono _ _ _ _ _ _ _ _ _ _
      | exact value_Unary.mono _ _ _ _ _ _
      | exact LeO.none _
      | refine LeO.ite ?_ ?_
      | refine LeO.bind ?_ (fun _ => ?_)
    · intro y0 y1 y2 y3 y4 y5 y6 y7 y8 y9 y10 y11 y12 y13 y14
      unfold refrainlaw1_ValueLogic.l0
      repeat' first
      | (with_reducible exact ih0 _ _ _ _ _ _ _ _ _ _ _ _ _ _ _ _ _ _ _ _ _ _ _ _ _ _ _)
      | (with_reducible exact ih1 _ _ _ _ _ _ _ _ _)
      | (with_reducible exact ih2 _ _ _ _ _ _ _ _ _ _ _ _ _ _ _)
      | (with_reducible exact refrainlaw1_begun.mono _)
      | (with_reducible exact refrainlaw1_yes.mono _ _ _ _ _ _ _ _ _ _ _)
      | (with_reducible exact value_Binary.mono _ _ _ _ _ _ _ _ _ _)
      | (with_reducible exact value_Unary.mono _ _ _ _ _ _)
      | (with_reducible exact LeO.refl _)
      | (with_reducible exact LeO.none _)
      | (with_reducible refine LeO.ite ?_ ?_)
      | (with_reducible refine LeO.bind ?_ (fun _ => ?_))
      | exact ih0 _ _ _ _ _ _ _ _ _ _ _ _ _ _ _ _ _ _ _ _ _ _ _ _ _ _ _
      | exact ih1 _ _ _ _ _ _ _ _ _
      | exact ih2 _ _ _ _ _ _ _ _ _ _ _ _ _ _ _
      | exact refrainlaw1_begun.mono _
      | exact refrainlaw1_yes.mono _ _ _ _ _ _ _ _ _ _ _
      | exact value_Binary.mono _ _ _ _ _ _ _ _ _ _
      | exact value_Unary.mono _ _ _ _ _ _
      | exact LeO.none _
      | refine LeO.ite ?_ ?_
      | refine LeO.bind ?_ (fun _ => ?_)
set_option maxRecDepth 100000 in
theorem refrainlaw1_ValueLogic.mono : ∀ a0 a1 a2 a3 a4 a5 a6 a7 a8 a9 k, LeO (refrainlaw1_ValueLogic.f k a0 a1 a2 a3 a4 a5 a6 a7 a8 a9) (refrainlaw1_ValueLogic.f (k + 1) a0 a1 a2 a3 a4 a5 a6 a7 a8 a9) := by
  intro a0 a1 a2 a3 a4 a5 a6 a7 a8 a9 k
  obtain ⟨ih0, ih1, ih2⟩ := refrainlaw1_ValueLogic.mono_l k
  unfold refrainlaw1_ValueLogic.f
  repeat' first
      | (with_reducible exact ih0 _ _ _ _ _ _ _ _ _ _ _ _ _ _ _ _ _ _ _ _ _ _ _ _ _ _ _)
      | (with_reducible exact ih1 _ _ _ _ _ _ _ _ _)
      | (with_reducible exact ih2 _ _ _ _ _ _ _ _ _ _ _ _ _ _ _)
      | (with_reducible exact refrainlaw1_begun.mono _)
      | (with_reducible exact refrainlaw1_yes.mono _ _ _ _ _ _ _ _ _ _ _)
      | (with_reducible exact value_Binary.mono _ _ _ _ _ _ _ _ _ _)
      | (with_reducible exact value_Unary.mono _ _ _ _ _ _)
      | (with_reducible exact LeO.refl _)
      | (with_reducible exact LeO.none _)
      | (with_reducible refine LeO.ite ?_ ?_)
      | (with_reducible refine LeO.bind ?_ (fun _ => ?_))
      | exact ih0 _ _ _ _ _ _ _ _ _ _ _ _ _ _ _ _ _ _ _ _ _ _ _ _ _ _ _
      | exact ih1 _ _ _ _ _ _ _ _ _
      | exact ih2 _ _ _ _ _ _ _ _ _ _ _ _ _ _ _
      | exact refrainlaw1_begun.mono _
      | exact refrainlaw1_yes.mono _ _ _ _ _ _ _ _ _ _ _
      | exact value_Binary.mono _ _ _ _ _ _ _ _ _ _
      | exact value_Unary.mono _ _ _ _ _ _
      | exact LeO.none _
      | refine LeO.ite ?_ ?_
      | refine LeO.bind ?_ (fun _ => ?_)
def refrainlaw1_ValueLogic.T17 : Bool × List (List Nat × List Nat) := (true, [([], []), ([0], [0]), ([1], [1]), ([2], [2]), ([], []), ([], []), ([3, 4, 5], [3, 4, 5]), ([6], [6]), ([7], [7]), ([7], [7]), ([], []), ([10, 8, 6, 0, 1, 2, 3, 4, 5, 6, 7, 8, 10], [8, 10]), ([9, 11, 0, 1, 2, 3, 4, 5, 6, 7, 8, 9, 10, 11], [9])])
def refrainlaw1_ValueLogic.B17 : List Nat := [0, 1, 3, 7, 0, 0, 63, 127, 255, 255, 0, 1535, 4095]
theorem refrainlaw1_ValueLogic.tab17 : rtab .any (opsOf Tryd.f9 17) = refrainlaw1_ValueLogic.T17 := by kernel_rfl
theorem refrainlaw1_ValueLogic.bits17 : waitsOk refrainlaw1_ValueLogic.T17.2 refrainlaw1_ValueLogic.B17 = true := by kernel_rfl
def refrainlaw1_ValueLogic.T18 : Bool × List (List Nat × List Nat) := (true, [([], []), ([0], [0]), ([1], [1]), ([2], [2]), ([], []), ([], []), ([3, 4, 5], [3, 4, 5]), ([6], [6]), ([7], [7]), ([7], [7]), ([], []), ([10, 8, 6, 0, 1, 2, 3, 4, 5, 6, 7, 8, 10], [8, 10]), ([9, 11, 0, 1, 2, 3, 4, 5, 6, 7, 8, 9, 10, 11], [9])])
def refrainlaw1_ValueLogic.B18 : List Nat := [0, 1, 3, 7, 0, 0, 63, 127, 255, 255, 0, 1535, 4095]
theorem refrainlaw1_ValueLogic.tab18 : rtab .any (opsOf Tryd.f9 18) = refrainlaw1_ValueLogic.T18 := by kernel_rfl
theorem refrainlaw1_ValueLogic.bits18 : waitsOk refrainlaw1_ValueLogic.T18.2 refrainlaw1_ValueLogic.B18 = true := by kernel_rfl
set_option maxRecDepth 100000 in
theorem refrainlaw1_ValueLogic.j0_dead : ∀ (k : Nat) y0 y1 y3 y4 y5 y6 y7 y8 y9 y10 y11 y12 y13 y14 y15 y16 y17 y18 y19 y20 y21 y22 y23 y24 y25 y26, ¬ refrainlaw1_ValueLogic.j0 k y0 y1 true y3 y4 y5 y6 y7 y8 y9 y10 y11 y12 y13 y14 y15 y16 y17 y18 y19 y20 y21 y22 y23 y24 y25 y26 = some true
  | 0, _, _, _, _, _, _, _, _, _, _, _, _, _, _, _, _, _, _, _, _, _, _, _, _, _, _ => by intro h; rw [refrainlaw1_ValueLogic.j0_zero] at h; cases h
  | k + 1, _, _, _, _, _, _, _, _, _, _, _, _, _, _, _, _, _, _, _, _, _, _, _, _, _, _ => by intro h; simp only [refrainlaw1_ValueLogic.j0] at h; first | (rw [if_pos rfl] at h; cases h) | (rw [if_pos trivial] at h; cases h) | (simp at h; done)
set_option maxRecDepth 100000 in
theorem refrainlaw1_ValueLogic.j1_dead : ∀ (k : Nat) y1 y2 y3 y4 y5 y6 y7 y8, ¬ refrainlaw1_ValueLogic.j1 k true y1 y2 y3 y4 y5 y6 y7 y8 = some true
  | 0, _, _, _, _, _, _, _, _ => by intro h; rw [refrainlaw1_ValueLogic.j1_zero] at h; cases h
  | k + 1, _, _, _, _, _, _, _, _ => by intro h; simp only [refrainlaw1_ValueLogic.j1] at h; first | (rw [if_pos rfl] at h; cases h) | (rw [if_pos trivial] at h; cases h) | (simp at h; done)
set_option maxHeartbeats 100000000 in
set_option maxRecDepth 100000 in
theorem refrainlaw1_ValueLogic.calls (k : Nat) (a0 : Bool) (a1 : Bool) (a2_0 : Int) (a2_1 : Int) (a2_2 : ByteArray) (a2_3 : Bool) (a3_0 : Int) (a3_1 : Int) (a3_2 : ByteArray) (a3_3 : Bool) (r : Bool) (w : World) (HL_LErr : Aside0 (LErr w)) (HL_LG0 : Aside0 (LG0 w)) (HL_LG1 : Aside0 (LG1 w)) (HL_LSyn : Aside0 (LSyn w)) (h : refrainlaw1_ValueLogic.f k a0 a1 a2_0 a2_1 a2_2 a2_3 a3_0 a3_1 a3_2 a3_3 = some r) (hr : r = true) :
    Calls Tryd.prog 9 #[.bool a0, .bool a1, .agg #[.int .i64 a2_0, .int .i64 a2_1, .string a2_2, .bool a2_3], .agg #[.int .i64 a3_0, .int .i64 a3_1, .string a3_2, .bool a3_3]] w fun e w' => e = .returned (.bool r) ∧ Below w.heap.size w w' := by
  replace hr := Aside0.mk hr
  have hu26 := Tryd.underlying26
  have hu47 := Tryd.underlying47
  have hu48 := Tryd.underlying48
  have HB := Aside0.mk (Below.refl w.heap.size w)
  have H : ((refrainlaw1_begun.f k).bind fun t515 => (if t515 = true then ((value_Unary.f k 2 3 0 (⟨#[]⟩ : ByteArray) a0).bind fun bt518 => ((value_Unary.f k 2 3 0 (⟨#[]⟩ : ByteArray) a1).bind fun bt524 => ((value_Unary.f k 2 bt518.1 bt518.2.1 bt518.2.2.1 bt518.2.2.2.1).bind fun bt530 => (if bt518.2.2.2.2 = 0 then (if bt524.2.2.2.2 = 0 then (if bt530.2.2.2.2 = 0 then (if (!(bt530.1 == 3) || (!(bt530.2.1 == 0) || (!(bt530.2.2.1.toList == ([] : List UInt8)) || (!(bt530.2.2.2.1 == a0))))) = true then (refrainlaw1_ValueLogic.j0 k a0 a1 true a2_0 a2_1 a2_2 a2_3 a3_0 a3_1 a3_2 a3_3 3 0 (⟨#[]⟩ : ByteArray) a0 3 0 (⟨#[]⟩ : ByteArray) a1 bt518.1 bt518.2.1 bt518.2.2.1 bt518.2.2.2.1 bt524.1 bt524.2.1 bt524.2.2.1 bt524.2.2.2.1) else (refrainlaw1_ValueLogic.j0 k a0 a1 (bt518.1 == 3 && (bt518.2.1 == 0 && (bt518.2.2.1.toList == ([] : List UInt8) && (bt518.2.2.2.1 == a0)))) a2_0 a2_1 a2_2 a2_3 a3_0 a3_1 a3_2 a3_3 3 0 (⟨#[]⟩ : ByteArray) a0 3 0 (⟨#[]⟩ : ByteArray) a1 bt518.1 bt518.2.1 bt518.2.2.1 bt518.2.2.2.1 bt524.1 bt524.2.1 bt524.2.2.1 bt524.2.2.2.1)) else (refrainlaw1_ValueLogic.j0 k a0 a1 true a2_0 a2_1 a2_2 a2_3 a3_0 a3_1 a3_2 a3_3 3 0 (⟨#[]⟩ : ByteArray) a0 3 0 (⟨#[]⟩ : ByteArray) a1 bt518.1 bt518.2.1 bt518.2.2.1 bt518.2.2.2.1 bt524.1 bt524.2.1 bt524.2.2.1 bt524.2.2.2.1)) else (refrainlaw1_ValueLogic.j0 k a0 a1 true a2_0 a2_1 a2_2 a2_3 a3_0 a3_1 a3_2 a3_3 3 0 (⟨#[]⟩ : ByteArray) a0 3 0 (⟨#[]⟩ : ByteArray) a1 bt518.1 bt518.2.1 bt518.2.2.1 bt518.2.2.2.1 bt524.1 bt524.2.1 bt524.2.2.1 bt524.2.2.2.1)) else (refrainlaw1_ValueLogic.j0 k a0 a1 true a2_0 a2_1 a2_2 a2_3 a3_0 a3_1 a3_2 a3_3 3 0 (⟨#[]⟩ : ByteArray) a0 3 0 (⟨#[]⟩ : ByteArray) a1 bt518.1 bt518.2.1 bt518.2.2.1 bt518.2.2.2.1 bt524.1 bt524.2.1 bt524.2.2.1 bt524.2.2.2.1))))) else (some false))) = some r := h
  clear h
  replace H := Option.bind_eq_some_iff.mp H
  obtain ⟨t515, A50, H⟩ := H
  replace H : (if t515 = true then ((value_Unary.f k 2 3 0 (⟨#[]⟩ : ByteArray) a0).bind fun bt518 => ((value_Unary.f k 2 3 0 (⟨#[]⟩ : ByteArray) a1).bind fun bt524 => ((value_Unary.f k 2 bt518.1 bt518.2.1 bt518.2.2.1 bt518.2.2.2.1).bind fun bt530 => (if bt518.2.2.2.2 = 0 then (if bt524.2.2.2.2 = 0 then (if bt530.2.2.2.2 = 0 then (if (!(bt530.1 == 3) || (!(bt530.2.1 == 0) || (!(bt530.2.2.1.toList == ([] : List UInt8)) || (!(bt530.2.2.2.1 == a0))))) = true then (refrainlaw1_ValueLogic.j0 k a0 a1 true a2_0 a2_1 a2_2 a2_3 a3_0 a3_1 a3_2 a3_3 3 0 (⟨#[]⟩ : ByteArray) a0 3 0 (⟨#[]⟩ : ByteArray) a1 bt518.1 bt518.2.1 bt518.2.2.1 bt518.2.2.2.1 bt524.1 bt524.2.1 bt524.2.2.1 bt524.2.2.2.1) else (refrainlaw1_ValueLogic.j0 k a0 a1 (bt518.1 == 3 && (bt518.2.1 == 0 && (bt518.2.2.1.toList == ([] : List UInt8) && (bt518.2.2.2.1 == a0)))) a2_0 a2_1 a2_2 a2_3 a3_0 a3_1 a3_2 a3_3 3 0 (⟨#[]⟩ : ByteArray) a0 3 0 (⟨#[]⟩ : ByteArray) a1 bt518.1 bt518.2.1 bt518.2.2.1 bt518.2.2.2.1 bt524.1 bt524.2.1 bt524.2.2.1 bt524.2.2.2.1)) else (refrainlaw1_ValueLogic.j0 k a0 a1 true a2_0 a2_1 a2_2 a2_3 a3_0 a3_1 a3_2 a3_3 3 0 (⟨#[]⟩ : ByteArray) a0 3 0 (⟨#[]⟩ : ByteArray) a1 bt518.1 bt518.2.1 bt518.2.2.1 bt518.2.2.2.1 bt524.1 bt524.2.1 bt524.2.2.1 bt524.2.2.2.1)) else (refrainlaw1_ValueLogic.j0 k a0 a1 true a2_0 a2_1 a2_2 a2_3 a3_0 a3_1 a3_2 a3_3 3 0 (⟨#[]⟩ : ByteArray) a0 3 0 (⟨#[]⟩ : ByteArray) a1 bt518.1 bt518.2.1 bt518.2.2.1 bt518.2.2.2.1 bt524.1 bt524.2.1 bt524.2.2.1 bt524.2.2.2.1)) else (refrainlaw1_ValueLogic.j0 k a0 a1 true a2_0 a2_1 a2_2 a2_3 a3_0 a3_1 a3_2 a3_3 3 0 (⟨#[]⟩ : ByteArray) a0 3 0 (⟨#[]⟩ : ByteArray) a1 bt518.1 bt518.2.1 bt518.2.2.1 bt518.2.2.2.1 bt524.1 bt524.2.1 bt524.2.2.1 bt524.2.2.2.1))))) else (some false)) = some r := H
  have A5 := Aside0.mk A50
  clear A50
  by_cases c6 : t515 = true
  · subst c6
    have H1 : ((value_Unary.f k 2 3 0 (⟨#[]⟩ : ByteArray) a0).bind fun bt518 => ((value_Unary.f k 2 3 0 (⟨#[]⟩ : ByteArray) a1).bind fun bt524 => ((value_Unary.f k 2 bt518.1 bt518.2.1 bt518.2.2.1 bt518.2.2.2.1).bind fun bt530 => (if bt518.2.2.2.2 = 0 then (if bt524.2.2.2.2 = 0 then (if bt530.2.2.2.2 = 0 then (if (!(bt530.1 == 3) || (!(bt530.2.1 == 0) || (!(bt530.2.2.1.toList == ([] : List UInt8)) || (!(bt530.2.2.2.1 == a0))))) = true then (refrainlaw1_ValueLogic.j0 k a0 a1 true a2_0 a2_1 a2_2 a2_3 a3_0 a3_1 a3_2 a3_3 3 0 (⟨#[]⟩ : ByteArray) a0 3 0 (⟨#[]⟩ : ByteArray) a1 bt518.1 bt518.2.1 bt518.2.2.1 bt518.2.2.2.1 bt524.1 bt524.2.1 bt524.2.2.1 bt524.2.2.2.1) else (refrainlaw1_ValueLogic.j0 k a0 a1 (bt518.1 == 3 && (bt518.2.1 == 0 && (bt518.2.2.1.toList == ([] : List UInt8) && (bt518.2.2.2.1 == a0)))) a2_0 a2_1 a2_2 a2_3 a3_0 a3_1 a3_2 a3_3 3 0 (⟨#[]⟩ : ByteArray) a0 3 0 (⟨#[]⟩ : ByteArray) a1 bt518.1 bt518.2.1 bt518.2.2.1 bt518.2.2.2.1 bt524.1 bt524.2.1 bt524.2.2.1 bt524.2.2.2.1)) else (refrainlaw1_ValueLogic.j0 k a0 a1 true a2_0 a2_1 a2_2 a2_3 a3_0 a3_1 a3_2 a3_3 3 0 (⟨#[]⟩ : ByteArray) a0 3 0 (⟨#[]⟩ : ByteArray) a1 bt518.1 bt518.2.1 bt518.2.2.1 bt518.2.2.2.1 bt524.1 bt524.2.1 bt524.2.2.1 bt524.2.2.2.1)) else (refrainlaw1_ValueLogic.j0 k a0 a1 true a2_0 a2_1 a2_2 a2_3 a3_0 a3_1 a3_2 a3_3 3 0 (⟨#[]⟩ : ByteArray) a0 3 0 (⟨#[]⟩ : ByteArray) a1 bt518.1 bt518.2.1 bt518.2.2.1 bt518.2.2.2.1 bt524.1 bt524.2.1 bt524.2.2.1 bt524.2.2.2.1)) else (refrainlaw1_ValueLogic.j0 k a0 a1 true a2_0 a2_1 a2_2 a2_3 a3_0 a3_1 a3_2 a3_3 3 0 (⟨#[]⟩ : ByteArray) a0 3 0 (⟨#[]⟩ : ByteArray) a1 bt518.1 bt518.2.1 bt518.2.2.1 bt518.2.2.2.1 bt524.1 bt524.2.1 bt524.2.2.1 bt524.2.2.2.1))))) = some r := by rw [if_pos rfl] at H; exact H
    clear H
    have H := H1
    clear H1
    replace H := Option.bind_eq_some_iff.mp H
    obtain ⟨⟨t518, t519, t520, t521, t522⟩, A70, H⟩ := H
    replace H : ((value_Unary.f k 2 3 0 (⟨#[]⟩ : ByteArray) a1).bind fun bt524 => ((value_Unary.f k 2 t518 t519 t520 t521).bind fun bt530 => (if t522 = 0 then (if bt524.2.2.2.2 = 0 then (if bt530.2.2.2.2 = 0 then (if (!(bt530.1 == 3) || (!(bt530.2.1 == 0) || (!(bt530.2.2.1.toList == ([] : List UInt8)) || (!(bt530.2.2.2.1 == a0))))) = true then (refrainlaw1_ValueLogic.j0 k a0 a1 true a2_0 a2_1 a2_2 a2_3 a3_0 a3_1 a3_2 a3_3 3 0 (⟨#[]⟩ : ByteArray) a0 3 0 (⟨#[]⟩ : ByteArray) a1 t518 t519 t520 t521 bt524.1 bt524.2.1 bt524.2.2.1 bt524.2.2.2.1) else (refrainlaw1_ValueLogic.j0 k a0 a1 (t518 == 3 && (t519 == 0 && (t520.toList == ([] : List UInt8) && (t521 == a0)))) a2_0 a2_1 a2_2 a2_3 a3_0 a3_1 a3_2 a3_3 3 0 (⟨#[]⟩ : ByteArray) a0 3 0 (⟨#[]⟩ : ByteArray) a1 t518 t519 t520 t521 bt524.1 bt524.2.1 bt524.2.2.1 bt524.2.2.2.1)) else (refrainlaw1_ValueLogic.j0 k a0 a1 true a2_0 a2_1 a2_2 a2_3 a3_0 a3_1 a3_2 a3_3 3 0 (⟨#[]⟩ : ByteArray) a0 3 0 (⟨#[]⟩ : ByteArray) a1 t518 t519 t520 t521 bt524.1 bt524.2.1 bt524.2.2.1 bt524.2.2.2.1)) else (refrainlaw1_ValueLogic.j0 k a0 a1 true a2_0 a2_1 a2_2 a2_3 a3_0 a3_1 a3_2 a3_3 3 0 (⟨#[]⟩ : ByteArray) a0 3 0 (⟨#[]⟩ : ByteArray) a1 t518 t519 t520 t521 bt524.1 bt524.2.1 bt524.2.2.1 bt524.2.2.2.1)) else (refrainlaw1_ValueLogic.j0 k a0 a1 true a2_0 a2_1 a2_2 a2_3 a3_0 a3_1 a3_2 a3_3 3 0 (⟨#[]⟩ : ByteArray) a0 3 0 (⟨#[]⟩ : ByteArray) a1 t518 t519 t520 t521 bt524.1 bt524.2.1 bt524.2.2.1 bt524.2.2.2.1)))) = some r := H
    have A7 := Aside0.mk A70
    clear A70
    replace H := Option.bind_eq_some_iff.mp H
    obtain ⟨⟨t524, t525, t526, t527, t528⟩, A80, H⟩ := H
    replace H : ((value_Unary.f k 2 t518 t519 t520 t521).bind fun bt530 => (if t522 = 0 then (if t528 = 0 then (if bt530.2.2.2.2 = 0 then (if (!(bt530.1 == 3) || (!(bt530.2.1 == 0) || (!(bt530.2.2.1.toList == ([] : List UInt8)) || (!(bt530.2.2.2.1 == a0))))) = true then (refrainlaw1_ValueLogic.j0 k a0 a1 true a2_0 a2_1 a2_2 a2_3 a3_0 a3_1 a3_2 a3_3 3 0 (⟨#[]⟩ : ByteArray) a0 3 0 (⟨#[]⟩ : ByteArray) a1 t518 t519 t520 t521 t524 t525 t526 t527) else (refrainlaw1_ValueLogic.j0 k a0 a1 (t518 == 3 && (t519 == 0 && (t520.toList == ([] : List UInt8) && (t521 == a0)))) a2_0 a2_1 a2_2 a2_3 a3_0 a3_1 a3_2 a3_3 3 0 (⟨#[]⟩ : ByteArray) a0 3 0 (⟨#[]⟩ : ByteArray) a1 t518 t519 t520 t521 t524 t525 t526 t527)) else (refrainlaw1_ValueLogic.j0 k a0 a1 true a2_0 a2_1 a2_2 a2_3 a3_0 a3_1 a3_2 a3_3 3 0 (⟨#[]⟩ : ByteArray) a0 3 0 (⟨#[]⟩ : ByteArray) a1 t518 t519 t520 t521 t524 t525 t526 t527)) else (refrainlaw1_ValueLogic.j0 k a0 a1 true a2_0 a2_1 a2_2 a2_3 a3_0 a3_1 a3_2 a3_3 3 0 (⟨#[]⟩ : ByteArray) a0 3 0 (⟨#[]⟩ : ByteArray) a1 t518 t519 t520 t521 t524 t525 t526 t527)) else (refrainlaw1_ValueLogic.j0 k a0 a1 true a2_0 a2_1 a2_2 a2_3 a3_0 a3_1 a3_2 a3_3 3 0 (⟨#[]⟩ : ByteArray) a0 3 0 (⟨#[]⟩ : ByteArray) a1 t518 t519 t520 t521 t524 t525 t526 t527))) = some r := H
    have A8 := Aside0.mk A80
    clear A80
    replace H := Option.bind_eq_some_iff.mp H
    obtain ⟨⟨t530, t531, t532, t533, t534⟩, A90, H⟩ := H
    replace H : (if t522 = 0 then (if t528 = 0 then (if t534 = 0 then (if (!(t530 == 3) || (!(t531 == 0) || (!(t532.toList == ([] : List UInt8)) || (!(t533 == a0))))) = true then (refrainlaw1_ValueLogic.j0 k a0 a1 true a2_0 a2_1 a2_2 a2_3 a3_0 a3_1 a3_2 a3_3 3 0 (⟨#[]⟩ : ByteArray) a0 3 0 (⟨#[]⟩ : ByteArray) a1 t518 t519 t520 t521 t524 t525 t526 t527) else (refrainlaw1_ValueLogic.j0 k a0 a1 (t518 == 3 && (t519 == 0 && (t520.toList == ([] : List UInt8) && (t521 == a0)))) a2_0 a2_1 a2_2 a2_3 a3_0 a3_1 a3_2 a3_3 3 0 (⟨#[]⟩ : ByteArray) a0 3 0 (⟨#[]⟩ : ByteArray) a1 t518 t519 t520 t521 t524 t525 t526 t527)) else (refrainlaw1_ValueLogic.j0 k a0 a1 true a2_0 a2_1 a2_2 a2_3 a3_0 a3_1 a3_2 a3_3 3 0 (⟨#[]⟩ : ByteArray) a0 3 0 (⟨#[]⟩ : ByteArray) a1 t518 t519 t520 t521 t524 t525 t526 t527)) else (refrainlaw1_ValueLogic.j0 k a0 a1 true a2_0 a2_1 a2_2 a2_3 a3_0 a3_1 a3_2 a3_3 3 0 (⟨#[]⟩ : ByteArray) a0 3 0 (⟨#[]⟩ : ByteArray) a1 t518 t519 t520 t521 t524 t525 t526 t527)) else (refrainlaw1_ValueLogic.j0 k a0 a1 true a2_0 a2_1 a2_2 a2_3 a3_0 a3_1 a3_2 a3_3 3 0 (⟨#[]⟩ : ByteArray) a0 3 0 (⟨#[]⟩ : ByteArray) a1 t518 t519 t520 t521 t524 t525 t526 t527)) = some r := H
    have A9 := Aside0.mk A90
    clear A90
    have HC10 := Aside0.mk H
    clear H
    go_enter Tryd.func9, Tryd.ntmps9
    go_upto_region 9 with (first | ((with_reducible refine gate_dst (N := 6) rfl ?_); refine box_event ?hg (N := 6) ?hd (cs := #[.int .i64 a2_0, .int .i64 a2_1, .string a2_2, .bool a2_3]) (t := 26) ?hr ?_; (case hd => rfl); (case hg => rfl); (case hr => first | (go_simp; done) | (go_simp; rfl)); intro gb513 hg w11 hbox hb; have BK513 := Aside0.mk hbox; have GW513 := geA hg HB; have GE513 := geA hg HB; replace HB := bsA HB hb; clear hb hbox hg) | ((with_reducible refine gate_dst (N := 7) rfl ?_); refine box_event ?hg (N := 7) ?hd (cs := #[.int .i64 a3_0, .int .i64 a3_1, .string a3_2, .bool a3_3]) (t := 26) ?hr ?_; (case hd => rfl); (case hg => rfl); (case hr => first | (go_simp; done) | (go_simp; rfl)); intro gb514 hg w12 hbox hb; have BK514 := Aside0.mk hbox; have GW514 := geA hg HB; have GE514 := geA hg HB; have NB513_514 := neA hg BK513; have NB514_513 := neB hg BK513; replace BK513 := bbA BK513 hb; replace HB := bsA HB hb; clear hb hbox hg) | ((with_reducible refine gate_callee (f := 10) rfl ?_); refine goesT (some 24) Tryd.func10 #[] ?_; (with_reducible refine (refrainlaw1_begun.calls k  true _ ?side1 ?side2 ?side3 ?side4 A5.out (by first | rfl | exact hr.out)).mono ?_); (case side1 => first | (with_reducible exact HL_LErr) | exact ⟨LErr.below HL_LErr.out (hbT HB.out)⟩); (case side2 => first | (with_reducible exact HL_LG0) | exact ⟨LG0.below HL_LG0.out (hbT HB.out)⟩); (case side3 => first | (with_reducible exact HL_LG1) | exact ⟨LG1.below HL_LG1.out (hbT HB.out)⟩); (case side4 => first | (with_reducible exact HL_LSyn) | exact ⟨LSyn.below HL_LSyn.out (hbT HB.out)⟩); rintro e w13 ⟨rfl, hb⟩; refine ⟨_, rfl, ?_⟩; replace BK513 := bbA BK513 hb; replace BK514 := bbA BK514 hb; replace HB := bsA HB hb; (try clear hb); (try clear hb2); (try clear hk); (try clear hi)) | ((with_reducible refine gate_dst (N := 10) rfl ?_); refine box_event ?hg (N := 10) ?hd (cs := #[.int .i64 0, .int .i64 0, .string (⟨#[]⟩ : ByteArray), .bool false]) (t := 26) ?hr ?_; (case hd => rfl); (case hg => rfl); (case hr => first | (go_simp; done) | (go_simp; rfl)); intro gb516 hg w14 hbox hb; have BK516 := Aside0.mk hbox; have GW516 := geA hg HB; have GE516 := geA hg HB; have NB513_516 := neA hg BK513; have NB516_513 := neB hg BK513; have NB514_516 := neA hg BK514; have NB516_514 := neB hg BK514; replace BK513 := bbA BK513 hb; replace BK514 := bbA BK514 hb; replace HB := bsA HB hb; clear hb hbox hg; have hnb15 := NB516_513.out; have hnc15 := NB513_516.out; have hnb16 := NB516_514.out; have hnc16 := NB514_516.out; have hcz17_0 : w14.cell? ⟨gb516, 0, none⟩ = some (.int .i64 0) := (blk_cell BK516.out 0).trans rfl; have hcz17_1 : w14.cell? ⟨gb516, 1, none⟩ = some (.int .i64 0) := (blk_cell BK516.out 1).trans rfl; have hcz17_2 : w14.cell? ⟨gb516, 2, none⟩ = some (.string (⟨#[]⟩ : ByteArray)) := (blk_cell BK516.out 2).trans rfl; have hcz17_3 : w14.cell? ⟨gb516, 3, none⟩ = some (.bool false) := (blk_cell BK516.out 3).trans rfl; have hfz17_0 := blk_frozen BK516.out 0; have hfz17_1 := blk_frozen BK516.out 1; have hfz17_2 := blk_frozen BK516.out 2; have hfz17_3 := blk_frozen BK516.out 3) | ((with_reducible refine gate_dst (N := 11) rfl ?_); refine box_event ?hg (N := 11) ?hd (cs := #[.int .i64 0, .int .i64 0, .string (⟨#[]⟩ : ByteArray), .bool false]) (t := 26) ?hr ?_; (case hd => rfl); (case hg => rfl); (case hr => first | (go_simp; done) | (go_simp; rfl)); intro gb517 hg w18 hbox hb; have BK517 := Aside0.mk hbox; have GW517 := geA hg HB; have GE517 := geA hg HB; have NB513_517 := Aside0.mk ((by rw [hg]; exact Nat.ne_of_lt (blk_lt (g := gb513) (o := .cells #[.int .i64 a2_0, .int .i64 a2_1, .string a2_2, .bool a2_3] 26 (0, 0)) (bfT2 NB513_516.out BK513.out)) : gb513 ≠ gb517)); have NB517_513 := Aside0.mk ((by rw [hg]; exact Nat.ne_of_gt (blk_lt (g := gb513) (o := .cells #[.int .i64 a2_0, .int .i64 a2_1, .string a2_2, .bool a2_3] 26 (0, 0)) (bfT2 NB513_516.out BK513.out)) : gb517 ≠ gb513)); have NB514_517 := Aside0.mk ((by rw [hg]; exact Nat.ne_of_lt (blk_lt (g := gb514) (o := .cells #[.int .i64 a3_0, .int .i64 a3_1, .string a3_2, .bool a3_3] 26 (0, 0)) (bfT2 NB514_516.out BK514.out)) : gb514 ≠ gb517)); have NB517_514 := Aside0.mk ((by rw [hg]; exact Nat.ne_of_gt (blk_lt (g := gb514) (o := .cells #[.int .i64 a3_0, .int .i64 a3_1, .string a3_2, .bool a3_3] 26 (0, 0)) (bfT2 NB514_516.out BK514.out)) : gb517 ≠ gb514)); have NB516_517 := Aside0.mk ((by rw [hg]; exact Nat.ne_of_lt (blk_lt (g := gb516) (o := .cells #[.int .i64 3, .int .i64 0, .string (⟨#[]⟩ : ByteArray), .bool a0] 26 (0, 0)) (by (with_reducible repeat (first | refine blk_drewN ?_ _ | refine blk_drew ?_ | refine blk_alloc ?_ _)); refine blk_put (cs := #[.int .i64 3, .int .i64 0, .string (⟨#[]⟩ : ByteArray), .bool false]) ?_ 3 _ rfl; (with_reducible repeat (first | refine blk_drewN ?_ _ | refine blk_drew ?_ | refine blk_alloc ?_ _)); refine blk_put (cs := #[.int .i64 3, .int .i64 0, .string (⟨#[]⟩ : ByteArray), .bool false]) ?_ 2 _ rfl; (with_reducible repeat (first | refine blk_drewN ?_ _ | refine blk_drew ?_ | refine blk_alloc ?_ _)); refine blk_put (cs := #[.int .i64 3, .int .i64 0, .string (⟨#[]⟩ : ByteArray), .bool false]) ?_ 1 _ rfl; (with_reducible repeat (first | refine blk_drewN ?_ _ | refine blk_drew ?_ | refine blk_alloc ?_ _)); refine blk_put (cs := #[.int .i64 0, .int .i64 0, .string (⟨#[]⟩ : ByteArray), .bool false]) ?_ 0 _ rfl; (with_reducible repeat (first | refine blk_drewN ?_ _ | refine blk_drew ?_ | refine blk_alloc ?_ _)); exact BK516.out)) : gb516 ≠ gb517)); have NB517_516 := Aside0.mk ((by rw [hg]; exact Nat.ne_of_gt (blk_lt (g := gb516) (o := .cells #[.int .i64 3, .int .i64 0, .string (⟨#[]⟩ : ByteArray), .bool a0] 26 (0, 0)) (by (with_reducible repeat (first | refine blk_drewN ?_ _ | refine blk_drew ?_ | refine blk_alloc ?_ _)); refine blk_put (cs := #[.int .i64 3, .int .i64 0, .string (⟨#[]⟩ : ByteArray), .bool false]) ?_ 3 _ rfl; (with_reducible repeat (first | refine blk_drewN ?_ _ | refine blk_drew ?_ | refine blk_alloc ?_ _)); refine blk_put (cs := #[.int .i64 3, .int .i64 0, .string (⟨#[]⟩ : ByteArray), .bool false]) ?_ 2 _ rfl; (with_reducible repeat (first | refine blk_drewN ?_ _ | refine blk_drew ?_ | refine blk_alloc ?_ _)); refine blk_put (cs := #[.int .i64 3, .int .i64 0, .string (⟨#[]⟩ : ByteArray), .bool false]) ?_ 1 _ rfl; (with_reducible repeat (first | refine blk_drewN ?_ _ | refine blk_drew ?_ | refine blk_alloc ?_ _)); refine blk_put (cs := #[.int .i64 0, .int .i64 0, .string (⟨#[]⟩ : ByteArray), .bool false]) ?_ 0 _ rfl; (with_reducible repeat (first | refine blk_drewN ?_ _ | refine blk_drew ?_ | refine blk_alloc ?_ _)); exact BK516.out)) : gb517 ≠ gb516)); replace BK513 := Aside0.mk (blk_below (g := gb513) (o := .cells #[.int .i64 a2_0, .int .i64 a2_1, .string a2_2, .bool a2_3] 26 (0, 0)) (bfT2 NB513_516.out BK513.out) hb); replace BK514 := Aside0.mk (blk_below (g := gb514) (o := .cells #[.int .i64 a3_0, .int .i64 a3_1, .string a3_2, .bool a3_3] 26 (0, 0)) (bfT2 NB514_516.out BK514.out) hb); replace BK516 := Aside0.mk (blk_below (g := gb516) (o := .cells #[.int .i64 3, .int .i64 0, .string (⟨#[]⟩ : ByteArray), .bool a0] 26 (0, 0)) (by (with_reducible repeat (first | refine blk_drewN ?_ _ | refine blk_drew ?_ | refine blk_alloc ?_ _)); refine blk_put (cs := #[.int .i64 3, .int .i64 0, .string (⟨#[]⟩ : ByteArray), .bool false]) ?_ 3 _ rfl; (with_reducible repeat (first | refine blk_drewN ?_ _ | refine blk_drew ?_ | refine blk_alloc ?_ _)); refine blk_put (cs := #[.int .i64 3, .int .i64 0, .string (⟨#[]⟩ : ByteArray), .bool false]) ?_ 2 _ rfl; (with_reducible repeat (first | refine blk_drewN ?_ _ | refine blk_drew ?_ | refine blk_alloc ?_ _)); refine blk_put (cs := #[.int .i64 3, .int .i64 0, .string (⟨#[]⟩ : ByteArray), .bool false]) ?_ 1 _ rfl; (with_reducible repeat (first | refine blk_drewN ?_ _ | refine blk_drew ?_ | refine blk_alloc ?_ _)); refine blk_put (cs := #[.int .i64 0, .int .i64 0, .string (⟨#[]⟩ : ByteArray), .bool false]) ?_ 0 _ rfl; (with_reducible repeat (first | refine blk_drewN ?_ _ | refine blk_drew ?_ | refine blk_alloc ?_ _)); exact BK516.out) hb); replace HB := bsA HB hb; clear hb hbox hg; have hnb19 := NB517_513.out; have hnc19 := NB513_517.out; have hnb20 := NB517_514.out; have hnc20 := NB514_517.out; have hnb21 := NB517_516.out; have hnc21 := NB516_517.out; have hcz22_0 : w18.cell? ⟨gb517, 0, none⟩ = some (.int .i64 0) := (blk_cell BK517.out 0).trans rfl; have hcz22_1 : w18.cell? ⟨gb517, 1, none⟩ = some (.int .i64 0) := (blk_cell BK517.out 1).trans rfl; have hcz22_2 : w18.cell? ⟨gb517, 2, none⟩ = some (.string (⟨#[]⟩ : ByteArray)) := (blk_cell BK517.out 2).trans rfl; have hcz22_3 : w18.cell? ⟨gb517, 3, none⟩ = some (.bool false) := (blk_cell BK517.out 3).trans rfl; have hfz22_0 := blk_frozen BK517.out 0; have hfz22_1 := blk_frozen BK517.out 1; have hfz22_2 := blk_frozen BK517.out 2; have hfz22_3 := blk_frozen BK517.out 3; have hcz23_0 : w18.cell? ⟨gb516, 0, none⟩ = some (.int .i64 3) := (blk_cell BK516.out 0).trans rfl; have hcz23_1 : w18.cell? ⟨gb516, 1, none⟩ = some (.int .i64 0) := (blk_cell BK516.out 1).trans rfl; have hcz23_2 : w18.cell? ⟨gb516, 2, none⟩ = some (.string (⟨#[]⟩ : ByteArray)) := (blk_cell BK516.out 2).trans rfl; have hcz23_3 : w18.cell? ⟨gb516, 3, none⟩ = some (.bool a0) := (blk_cell BK516.out 3).trans rfl; have hfz23_0 := blk_frozen BK516.out 0; have hfz23_1 := blk_frozen BK516.out 1; have hfz23_2 := blk_frozen BK516.out 2; have hfz23_3 := blk_frozen BK516.out 3) | ((with_reducible refine gate_callee (f := 22) rfl ?_); refine goesT (some 33) Tryd.func22 #[.int .i64 2, .agg #[.int .i64 3, .int .i64 0, .string (⟨#[]⟩ : ByteArray), .bool a0]] ?_; (with_reducible refine (value_Unary.calls k 2 3 0 (⟨#[]⟩ : ByteArray) a0 t518 t519 t520 t521 t522 _ ?side1 A7.out).mono ?_); (case side1 => first | (with_reducible exact HL_LG0) | exact ⟨LG0.below HL_LG0.out (hbT HB.out)⟩); rintro e w24 ⟨rfl, hb⟩; refine ⟨_, rfl, ?_⟩; replace BK513 := Aside0.mk (blk_below (g := gb513) (o := .cells #[.int .i64 a2_0, .int .i64 a2_1, .string a2_2, .bool a2_3] 26 (0, 0)) (bfT2 NB513_517.out BK513.out) hb); replace BK514 := Aside0.mk (blk_below (g := gb514) (o := .cells #[.int .i64 a3_0, .int .i64 a3_1, .string a3_2, .bool a3_3] 26 (0, 0)) (bfT2 NB514_517.out BK514.out) hb); replace BK516 := Aside0.mk (blk_below (g := gb516) (o := .cells #[.int .i64 3, .int .i64 0, .string (⟨#[]⟩ : ByteArray), .bool a0] 26 (0, 0)) (bfT2 NB516_517.out BK516.out) hb); replace BK517 := Aside0.mk (blk_below (g := gb517) (o := .cells #[.int .i64 3, .int .i64 0, .string (⟨#[]⟩ : ByteArray), .bool a1] 26 (0, 0)) (by (with_reducible repeat (first | refine blk_drewN ?_ _ | refine blk_drew ?_ | refine blk_alloc ?_ _)); refine blk_put (cs := #[.int .i64 3, .int .i64 0, .string (⟨#[]⟩ : ByteArray), .bool false]) ?_ 3 _ rfl; (with_reducible repeat (first | refine blk_drewN ?_ _ | refine blk_drew ?_ | refine blk_alloc ?_ _)); refine blk_put (cs := #[.int .i64 3, .int .i64 0, .string (⟨#[]⟩ : ByteArray), .bool false]) ?_ 2 _ rfl; (with_reducible repeat (first | refine blk_drewN ?_ _ | refine blk_drew ?_ | refine blk_alloc ?_ _)); refine blk_put (cs := #[.int .i64 3, .int .i64 0, .string (⟨#[]⟩ : ByteArray), .bool false]) ?_ 1 _ rfl; (with_reducible repeat (first | refine blk_drewN ?_ _ | refine blk_drew ?_ | refine blk_alloc ?_ _)); refine blk_put (cs := #[.int .i64 0, .int .i64 0, .string (⟨#[]⟩ : ByteArray), .bool false]) ?_ 0 _ rfl; (with_reducible repeat (first | refine blk_drewN ?_ _ | refine blk_drew ?_ | refine blk_alloc ?_ _)); exact BK517.out) hb); replace HB := bsA HB hb; (try clear hb); (try clear hb2); (try clear hk); (try clear hi)) | ((with_reducible refine gate_dst (N := 12) rfl ?_); refine box_event ?hg (N := 12) ?hd (cs := #[.int .i64 0, .int .i64 0, .string (⟨#[]⟩ : ByteArray), .bool false]) (t := 26) ?hr ?_; (case hd => rfl); (case hg => rfl); (case hr => first | (go_simp; done) | (go_simp; rfl)); intro gb523 hg w25 hbox hb; have BK523 := Aside0.mk hbox; have GW523 := geA hg HB; have GE523 := geA hg HB; have NB513_523 := neA hg BK513; have NB523_513 := neB hg BK513; have NB514_523 := neA hg BK514; have NB523_514 := neB hg BK514; have NB516_523 := neA hg BK516; have NB523_516 := neB hg BK516; have NB517_523 := neA hg BK517; have NB523_517 := neB hg BK517; replace BK513 := bbA BK513 hb; replace BK514 := bbA BK514 hb; replace BK516 := bbA BK516 hb; replace BK517 := bbA BK517 hb; replace HB := bsA HB hb; clear hb hbox hg; have hnb26 := NB523_513.out; have hnc26 := NB513_523.out; have hnb27 := NB523_514.out; have hnc27 := NB514_523.out; have hnb28 := NB523_516.out; have hnc28 := NB516_523.out; have hnb29 := NB523_517.out; have hnc29 := NB517_523.out; have hcz30_0 : w25.cell? ⟨gb523, 0, none⟩ = some (.int .i64 0) := (blk_cell BK523.out 0).trans rfl; have hcz30_1 : w25.cell? ⟨gb523, 1, none⟩ = some (.int .i64 0) := (blk_cell BK523.out 1).trans rfl; have hcz30_2 : w25.cell? ⟨gb523, 2, none⟩ = some (.string (⟨#[]⟩ : ByteArray)) := (blk_cell BK523.out 2).trans rfl; have hcz30_3 : w25.cell? ⟨gb523, 3, none⟩ = some (.bool false) := (blk_cell BK523.out 3).trans rfl; have hfz30_0 := blk_frozen BK523.out 0; have hfz30_1 := blk_frozen BK523.out 1; have hfz30_2 := blk_frozen BK523.out 2; have hfz30_3 := blk_frozen BK523.out 3; have hcz31_0 : w25.cell? ⟨gb517, 0, none⟩ = some (.int .i64 3) := (blk_cell BK517.out 0).trans rfl; have hcz31_1 : w25.cell? ⟨gb517, 1, none⟩ = some (.int .i64 0) := (blk_cell BK517.out 1).trans rfl; have hcz31_2 : w25.cell? ⟨gb517, 2, none⟩ = some (.string (⟨#[]⟩ : ByteArray)) := (blk_cell BK517.out 2).trans rfl; have hcz31_3 : w25.cell? ⟨gb517, 3, none⟩ = some (.bool a1) := (blk_cell BK517.out 3).trans rfl; have hfz31_0 := blk_frozen BK517.out 0; have hfz31_1 := blk_frozen BK517.out 1; have hfz31_2 := blk_frozen BK517.out 2; have hfz31_3 := blk_frozen BK517.out 3) | ((with_reducible refine gate_callee (f := 22) rfl ?_); refine goesT (some 38) Tryd.func22 #[.int .i64 2, .agg #[.int .i64 3, .int .i64 0, .string (⟨#[]⟩ : ByteArray), .bool a1]] ?_; (with_reducible refine (value_Unary.calls k 2 3 0 (⟨#[]⟩ : ByteArray) a1 t524 t525 t526 t527 t528 _ ?side1 A8.out).mono ?_); (case side1 => first | (with_reducible exact HL_LG0) | exact ⟨LG0.below HL_LG0.out (hbT HB.out)⟩); rintro e w32 ⟨rfl, hb⟩; refine ⟨_, rfl, ?_⟩; replace BK513 := Aside0.mk (blk_below (g := gb513) (o := .cells #[.int .i64 a2_0, .int .i64 a2_1, .string a2_2, .bool a2_3] 26 (0, 0)) (bfT2 NB513_523.out BK513.out) hb); replace BK514 := Aside0.mk (blk_below (g := gb514) (o := .cells #[.int .i64 a3_0, .int .i64 a3_1, .string a3_2, .bool a3_3] 26 (0, 0)) (bfT2 NB514_523.out BK514.out) hb); replace BK516 := Aside0.mk (blk_below (g := gb516) (o := .cells #[.int .i64 3, .int .i64 0, .string (⟨#[]⟩ : ByteArray), .bool a0] 26 (0, 0)) (bfT2 NB516_523.out BK516.out) hb); replace BK517 := Aside0.mk (blk_below (g := gb517) (o := .cells #[.int .i64 3, .int .i64 0, .string (⟨#[]⟩ : ByteArray), .bool a1] 26 (0, 0)) (bfT2 NB517_523.out BK517.out) hb); replace BK523 := Aside0.mk (blk_below (g := gb523) (o := .cells #[.int .i64 t518, .int .i64 t519, .string t520, .bool t521] 26 (0, 0)) (by (with_reducible repeat (first | refine blk_drewN ?_ _ | refine blk_drew ?_ | refine blk_alloc ?_ _)); refine blk_put (cs := #[.int .i64 t518, .int .i64 t519, .string t520, .bool false]) ?_ 3 _ rfl; (with_reducible repeat (first | refine blk_drewN ?_ _ | refine blk_drew ?_ | refine blk_alloc ?_ _)); refine blk_put (cs := #[.int .i64 t518, .int .i64 t519, .string (⟨#[]⟩ : ByteArray), .bool false]) ?_ 2 _ rfl; (with_reducible repeat (first | refine blk_drewN ?_ _ | refine blk_drew ?_ | refine blk_alloc ?_ _)); refine blk_put (cs := #[.int .i64 t518, .int .i64 0, .string (⟨#[]⟩ : ByteArray), .bool false]) ?_ 1 _ rfl; (with_reducible repeat (first | refine blk_drewN ?_ _ | refine blk_drew ?_ | refine blk_alloc ?_ _)); refine blk_put (cs := #[.int .i64 0, .int .i64 0, .string (⟨#[]⟩ : ByteArray), .bool false]) ?_ 0 _ rfl; (with_reducible repeat (first | refine blk_drewN ?_ _ | refine blk_drew ?_ | refine blk_alloc ?_ _)); exact BK523.out) hb); replace HB := bsA HB hb; (try clear hb); (try clear hb2); (try clear hk); (try clear hi)) | ((with_reducible refine gate_dst (N := 14) rfl ?_); refine box_event ?hg (N := 14) ?hd (cs := #[.int .i64 0, .int .i64 0, .string (⟨#[]⟩ : ByteArray), .bool false]) (t := 26) ?hr ?_; (case hd => rfl); (case hg => rfl); (case hr => first | (go_simp; done) | (go_simp; rfl)); intro gb529 hg w33 hbox hb; have BK529 := Aside0.mk hbox; have GW529 := geA hg HB; have GE529 := geA hg HB; have NB513_529 := neA hg BK513; have NB529_513 := neB hg BK513; have NB514_529 := neA hg BK514; have NB529_514 := neB hg BK514; have NB516_529 := neA hg BK516; have NB529_516 := neB hg BK516; have NB517_529 := neA hg BK517; have NB529_517 := neB hg BK517; have NB523_529 := neA hg BK523; have NB529_523 := neB hg BK523; replace BK513 := bbA BK513 hb; replace BK514 := bbA BK514 hb; replace BK516 := bbA BK516 hb; replace BK517 := bbA BK517 hb; replace BK523 := bbA BK523 hb; replace HB := bsA HB hb; clear hb hbox hg; have hnb34 := NB529_513.out; have hnc34 := NB513_529.out; have hnb35 := NB529_514.out; have hnc35 := NB514_529.out; have hnb36 := NB529_516.out; have hnc36 := NB516_529.out; have hnb37 := NB529_517.out; have hnc37 := NB517_529.out; have hnb38 := NB529_523.out; have hnc38 := NB523_529.out; have hcz39_0 : w33.cell? ⟨gb529, 0, none⟩ = some (.int .i64 0) := (blk_cell BK529.out 0).trans rfl; have hcz39_1 : w33.cell? ⟨gb529, 1, none⟩ = some (.int .i64 0) := (blk_cell BK529.out 1).trans rfl; have hcz39_2 : w33.cell? ⟨gb529, 2, none⟩ = some (.string (⟨#[]⟩ : ByteArray)) := (blk_cell BK529.out 2).trans rfl; have hcz39_3 : w33.cell? ⟨gb529, 3, none⟩ = some (.bool false) := (blk_cell BK529.out 3).trans rfl; have hfz39_0 := blk_frozen BK529.out 0; have hfz39_1 := blk_frozen BK529.out 1; have hfz39_2 := blk_frozen BK529.out 2; have hfz39_3 := blk_frozen BK529.out 3; have hcz40_0 : w33.cell? ⟨gb523, 0, none⟩ = some (.int .i64 t518) := (blk_cell BK523.out 0).trans rfl; have hcz40_1 : w33.cell? ⟨gb523, 1, none⟩ = some (.int .i64 t519) := (blk_cell BK523.out 1).trans rfl; have hcz40_2 : w33.cell? ⟨gb523, 2, none⟩ = some (.string t520) := (blk_cell BK523.out 2).trans rfl; have hcz40_3 : w33.cell? ⟨gb523, 3, none⟩ = some (.bool t521) := (blk_cell BK523.out 3).trans rfl; have hfz40_0 := blk_frozen BK523.out 0; have hfz40_1 := blk_frozen BK523.out 1; have hfz40_2 := blk_frozen BK523.out 2; have hfz40_3 := blk_frozen BK523.out 3) | ((with_reducible refine gate_callee (f := 22) rfl ?_); refine goesT (some 43) Tryd.func22 #[.int .i64 2, .agg #[.int .i64 t518, .int .i64 t519, .string t520, .bool t521]] ?_; (with_reducible refine (value_Unary.calls k 2 t518 t519 t520 t521 t530 t531 t532 t533 t534 _ ?side1 A9.out).mono ?_); (case side1 => first | (with_reducible exact HL_LG0) | exact ⟨LG0.below HL_LG0.out (hbT HB.out)⟩); rintro e w41 ⟨rfl, hb⟩; refine ⟨_, rfl, ?_⟩; replace BK513 := Aside0.mk (blk_below (g := gb513) (o := .cells #[.int .i64 a2_0, .int .i64 a2_1, .string a2_2, .bool a2_3] 26 (0, 0)) (bfT2 NB513_529.out BK513.out) hb); replace BK514 := Aside0.mk (blk_below (g := gb514) (o := .cells #[.int .i64 a3_0, .int .i64 a3_1, .string a3_2, .bool a3_3] 26 (0, 0)) (bfT2 NB514_529.out BK514.out) hb); replace BK516 := Aside0.mk (blk_below (g := gb516) (o := .cells #[.int .i64 3, .int .i64 0, .string (⟨#[]⟩ : ByteArray), .bool a0] 26 (0, 0)) (bfT2 NB516_529.out BK516.out) hb); replace BK517 := Aside0.mk (blk_below (g := gb517) (o := .cells #[.int .i64 3, .int .i64 0, .string (⟨#[]⟩ : ByteArray), .bool a1] 26 (0, 0)) (bfT2 NB517_529.out BK517.out) hb); replace BK523 := Aside0.mk (blk_below (g := gb523) (o := .cells #[.int .i64 t518, .int .i64 t519, .string t520, .bool t521] 26 (0, 0)) (bfT2 NB523_529.out BK523.out) hb); replace BK529 := Aside0.mk (blk_below (g := gb529) (o := .cells #[.int .i64 t524, .int .i64 t525, .string t526, .bool t527] 26 (0, 0)) (by (with_reducible repeat (first | refine blk_drewN ?_ _ | refine blk_drew ?_ | refine blk_alloc ?_ _)); refine blk_put (cs := #[.int .i64 t524, .int .i64 t525, .string t526, .bool false]) ?_ 3 _ rfl; (with_reducible repeat (first | refine blk_drewN ?_ _ | refine blk_drew ?_ | refine blk_alloc ?_ _)); refine blk_put (cs := #[.int .i64 t524, .int .i64 t525, .string (⟨#[]⟩ : ByteArray), .bool false]) ?_ 2 _ rfl; (with_reducible repeat (first | refine blk_drewN ?_ _ | refine blk_drew ?_ | refine blk_alloc ?_ _)); refine blk_put (cs := #[.int .i64 t524, .int .i64 0, .string (⟨#[]⟩ : ByteArray), .bool false]) ?_ 1 _ rfl; (with_reducible repeat (first | refine blk_drewN ?_ _ | refine blk_drew ?_ | refine blk_alloc ?_ _)); refine blk_put (cs := #[.int .i64 0, .int .i64 0, .string (⟨#[]⟩ : ByteArray), .bool false]) ?_ 0 _ rfl; (with_reducible repeat (first | refine blk_drewN ?_ _ | refine blk_drew ?_ | refine blk_alloc ?_ _)); exact BK529.out) hb); replace HB := bsA HB hb; (try clear hb); (try clear hb2); (try clear hk); (try clear hi)) | ((with_reducible refine gate_dst (N := 16) rfl ?_); refine box_event ?hg (N := 16) ?hd (cs := #[.int .i64 0, .int .i64 0, .string (⟨#[]⟩ : ByteArray), .bool false]) (t := 26) ?hr ?_; (case hd => rfl); (case hg => rfl); (case hr => first | (go_simp; done) | (go_simp; rfl)); intro gb535 hg w42 hbox hb; have BK535 := Aside0.mk hbox; have GW535 := geA hg HB; have GE535 := geA hg HB; have NB513_535 := neA hg BK513; have NB535_513 := neB hg BK513; have NB514_535 := neA hg BK514; have NB535_514 := neB hg BK514; have NB516_535 := neA hg BK516; have NB535_516 := neB hg BK516; have NB517_535 := neA hg BK517; have NB535_517 := neB hg BK517; have NB523_535 := neA hg BK523; have NB535_523 := neB hg BK523; have NB529_535 := neA hg BK529; have NB535_529 := neB hg BK529; replace BK513 := bbA BK513 hb; replace BK514 := bbA BK514 hb; replace BK516 := bbA BK516 hb; replace BK517 := bbA BK517 hb; replace BK523 := bbA BK523 hb; replace BK529 := bbA BK529 hb; replace HB := bsA HB hb; clear hb hbox hg; have hnb43 := NB535_513.out; have hnc43 := NB513_535.out; have hnb44 := NB535_514.out; have hnc44 := NB514_535.out; have hnb45 := NB535_516.out; have hnc45 := NB516_535.out; have hnb46 := NB535_517.out; have hnc46 := NB517_535.out; have hnb47 := NB535_523.out; have hnc47 := NB523_535.out; have hnb48 := NB535_529.out; have hnc48 := NB529_535.out; have hcz49_0 : w42.cell? ⟨gb535, 0, none⟩ = some (.int .i64 0) := (blk_cell BK535.out 0).trans rfl; have hcz49_1 : w42.cell? ⟨gb535, 1, none⟩ = some (.int .i64 0) := (blk_cell BK535.out 1).trans rfl; have hcz49_2 : w42.cell? ⟨gb535, 2, none⟩ = some (.string (⟨#[]⟩ : ByteArray)) := (blk_cell BK535.out 2).trans rfl; have hcz49_3 : w42.cell? ⟨gb535, 3, none⟩ = some (.bool false) := (blk_cell BK535.out 3).trans rfl; have hfz49_0 := blk_frozen BK535.out 0; have hfz49_1 := blk_frozen BK535.out 1; have hfz49_2 := blk_frozen BK535.out 2; have hfz49_3 := blk_frozen BK535.out 3))
    (try simp only [Act.put, List.setIfInBounds_toArray, List.set_cons_zero, List.set_cons_succ])
    go_cut [65] (fun v65 wc => ∃ (kq : Nat) (x65_9 : Bool), v65 = .bool x65_9 ∧ Aside0 (refrainlaw1_ValueLogic.j0 kq a0 a1 x65_9 a2_0 a2_1 a2_2 a2_3 a3_0 a3_1 a3_2 a3_3 3 0 (⟨#[]⟩ : ByteArray) a0 3 0 (⟨#[]⟩ : ByteArray) a1 t518 t519 t520 t521 t524 t525 t526 t527 = some r) ∧ Aside0 (kq ≤ k) ∧ Aside0 (wc.heap[gb513]? = some (.cells #[.int .i64 a2_0, .int .i64 a2_1, .string a2_2, .bool a2_3] 26 (0, 0))) ∧ Aside0 (wc.heap[gb514]? = some (.cells #[.int .i64 a3_0, .int .i64 a3_1, .string a3_2, .bool a3_3] 26 (0, 0))) ∧ Aside0 (wc.heap[gb516]? = some (.cells #[.int .i64 3, .int .i64 0, .string (⟨#[]⟩ : ByteArray), .bool a0] 26 (0, 0))) ∧ Aside0 (wc.heap[gb517]? = some (.cells #[.int .i64 3, .int .i64 0, .string (⟨#[]⟩ : ByteArray), .bool a1] 26 (0, 0))) ∧ Aside0 (wc.heap[gb523]? = some (.cells #[.int .i64 t518, .int .i64 t519, .string t520, .bool t521] 26 (0, 0))) ∧ Aside0 (wc.heap[gb529]? = some (.cells #[.int .i64 t524, .int .i64 t525, .string t526, .bool t527] 26 (0, 0))) ∧ Aside0 (wc.heap[gb535]? = some (.cells #[.int .i64 t530, .int .i64 t531, .string t532, .bool t533] 26 (0, 0))) ∧ Aside0 (Below w.heap.size w wc))
    case first =>
      have H := HC10.out
      clear HC10
      by_cases c50 : t522 = 0
      · rw [if_pos c50] at H
        have c50b0 : (t522 == 0) = true := beq_iff_eq.mpr c50
        have c50b1 : (t522 != 0) = false := bne_eq_false_iff_eq.mpr c50
        clear c50
        (first | rw [c50b0] | (simp only [i64_w, i32_w, IntKind.wrap_u8, IntKind.wrap_u16, IntKind.wrap_u32]; rw [c50b0]) | skip)
        by_cases c51 : t528 = 0
        · rw [if_pos c51] at H
          have c51b0 : (t528 == 0) = true := beq_iff_eq.mpr c51
          have c51b1 : (t528 != 0) = false := bne_eq_false_iff_eq.mpr c51
          clear c51
          by_cases c52 : t534 = 0
          · rw [if_pos c52] at H
            have c52b0 : (t534 == 0) = true := beq_iff_eq.mpr c52
            have c52b1 : (t534 != 0) = false := bne_eq_false_iff_eq.mpr c52
            clear c52
            by_cases c53 : (!(t530 == 3) || (!(t531 == 0) || (!(t532.toList == ([] : List UInt8)) || (!(t533 == a0))))) = true
            · rw [if_pos c53] at H
              exact absurd (H.trans (congrArg some hr.out)) (refrainlaw1_ValueLogic.j0_dead _ _ _ _ _ _ _ _ _ _ _ _ _ _ _ _ _ _ _ _ _ _ _ _ _ _ _)
            · rw [if_neg c53] at H
              have c53b0 : (!(t530 == 3) || (!(t531 == 0) || (!(t532.toList == ([] : List UInt8)) || (!(t533 == a0))))) = false := by simpa using c53
              have cs_ := c53b0
              simp only [Bool.or_eq_false_iff, Bool.not_eq_false', beq_iff_eq] at cs_
              obtain ⟨cs0_, cs1_, cs2_, cs3_⟩ := cs_
              clear c53b0
              (have ct_ := cs0_.symm; clear cs0_; subst ct_)
              (have ct_ := cs1_.symm; clear cs1_; subst ct_)
              (have ct_ := cs3_.symm; clear cs3_; subst ct_)
              clear c53
              have H' := Aside0.mk H
              clear H; have hnb67 := NB535_513.out
              have hnc67 := NB513_535.out; have hnb68 := NB535_514.out; have hnc68 := NB514_535.out; have hnb69 := NB535_516.out; have hnc69 := NB516_535.out; have hnb70 := NB535_517.out; have hnc70 := NB517_535.out; have hnb71 := NB535_523.out; have hnc71 := NB523_535.out; have hnb72 := NB535_529.out; have hnc72 := NB529_535.out; have hcz73_0 : w42.cell? ⟨gb535, 0, none⟩ = some (.int .i64 0) := (blk_cell BK535.out 0).trans rfl; have hcz73_1 : w42.cell? ⟨gb535, 1, none⟩ = some (.int .i64 0) := (blk_cell BK535.out 1).trans rfl; have hcz73_2 : w42.cell? ⟨gb535, 2, none⟩ = some (.string (⟨#[]⟩ : ByteArray)) := (blk_cell BK535.out 2).trans rfl; have hcz73_3 : w42.cell? ⟨gb535, 3, none⟩ = some (.bool false) := (blk_cell BK535.out 3).trans rfl; have hfz73_0 := blk_frozen BK535.out 0; have hfz73_1 := blk_frozen BK535.out 1; have hfz73_2 := blk_frozen BK535.out 2; have hfz73_3 := blk_frozen BK535.out 3; have hnb74 := NB516_513.out; have hnc74 := NB513_516.out; have hnb75 := NB516_514.out; have hnc75 := NB514_516.out; have hnb76 := NB516_517.out; have hnc76 := NB517_516.out; have hnb77 := NB516_523.out; have hnc77 := NB523_516.out; have hnb78 := NB516_529.out; have hnc78 := NB529_516.out; have hcz79_0 : w42.cell? ⟨gb516, 0, none⟩ = some (.int .i64 3) := (blk_cell BK516.out 0).trans rfl; have hcz79_1 : w42.cell? ⟨gb516, 1, none⟩ = some (.int .i64 0) := (blk_cell BK516.out 1).trans rfl; have hcz79_2 : w42.cell? ⟨gb516, 2, none⟩ = some (.string (⟨#[]⟩ : ByteArray)) := (blk_cell BK516.out 2).trans rfl; have hcz79_3 : w42.cell? ⟨gb516, 3, none⟩ = some (.bool a0) := (blk_cell BK516.out 3).trans rfl; have hfz79_0 := blk_frozen BK516.out 0; have hfz79_1 := blk_frozen BK516.out 1; have hfz79_2 := blk_frozen BK516.out 2; have hfz79_3 := blk_frozen BK516.out 3; have hnb80 := NB523_513.out; have hnc80 := NB513_523.out; have hnb81 := NB523_514.out; have hnc81 := NB514_523.out; have hnb82 := NB523_517.out; have hnc82 := NB517_523.out; have hnb83 := NB523_529.out; have hnc83 := NB529_523.out; have hcz84_0 : w42.cell? ⟨gb523, 0, none⟩ = some (.int .i64 t518) := (blk_cell BK523.out 0).trans rfl; have hcz84_1 : w42.cell? ⟨gb523, 1, none⟩ = some (.int .i64 t519) := (blk_cell BK523.out 1).trans rfl; have hcz84_2 : w42.cell? ⟨gb523, 2, none⟩ = some (.string t520) := (blk_cell BK523.out 2).trans rfl; have hcz84_3 : w42.cell? ⟨gb523, 3, none⟩ = some (.bool t521) := (blk_cell BK523.out 3).trans rfl; have hfz84_0 := blk_frozen BK523.out 0; have hfz84_1 := blk_frozen BK523.out 1; have hfz84_2 := blk_frozen BK523.out 2; have hfz84_3 := blk_frozen BK523.out 3
              go_wp2
              go_meet
              case rel => exact ⟨_, ((t518 == 3 && (t519 == 0 && (t520.toList == ([] : List UInt8) && (t521 == a0))))), (by first | rfl | (simp; done) | (simp [*]; done) | (simp; unfold wrap64; omega) | (congr 1; (try rw [Bool.eq_iff_iff]); simp [List.isEmpty_iff]; done)), H', ⟨by first | omega | exact Nat.le_refl _⟩, ⟨bfT2 NB513_535.out BK513.out⟩, ⟨bfT2 NB514_535.out BK514.out⟩, ⟨bfT2 NB516_535.out BK516.out⟩, ⟨bfT2 NB517_535.out BK517.out⟩, ⟨bfT2 NB523_535.out BK523.out⟩, ⟨bfT2 NB529_535.out BK529.out⟩, ⟨by (with_reducible repeat (first | refine blk_drewN ?_ _ | refine blk_drew ?_ | refine blk_alloc ?_ _)); refine blk_put (cs := #[.int .i64 (3 : Int), .int .i64 (0 : Int), .string t532, .bool false]) ?_ 3 _ rfl; (with_reducible repeat (first | refine blk_drewN ?_ _ | refine blk_drew ?_ | refine blk_alloc ?_ _)); refine blk_put (cs := #[.int .i64 (3 : Int), .int .i64 (0 : Int), .string (⟨#[]⟩ : ByteArray), .bool false]) ?_ 2 _ rfl; (with_reducible repeat (first | refine blk_drewN ?_ _ | refine blk_drew ?_ | refine blk_alloc ?_ _)); refine blk_put (cs := #[.int .i64 (3 : Int), .int .i64 0, .string (⟨#[]⟩ : ByteArray), .bool false]) ?_ 1 _ rfl; (with_reducible repeat (first | refine blk_drewN ?_ _ | refine blk_drew ?_ | refine blk_alloc ?_ _)); refine blk_put (cs := #[.int .i64 0, .int .i64 0, .string (⟨#[]⟩ : ByteArray), .bool false]) ?_ 0 _ rfl; (with_reducible repeat (first | refine blk_drewN ?_ _ | refine blk_drew ?_ | refine blk_alloc ?_ _)); exact BK535.out⟩, ⟨hbT HB.out⟩⟩
          · rw [if_neg c52] at H
            exact absurd (H.trans (congrArg some hr.out)) (refrainlaw1_ValueLogic.j0_dead _ _ _ _ _ _ _ _ _ _ _ _ _ _ _ _ _ _ _ _ _ _ _ _ _ _ _)
        · rw [if_neg c51] at H
          exact absurd (H.trans (congrArg some hr.out)) (refrainlaw1_ValueLogic.j0_dead _ _ _ _ _ _ _ _ _ _ _ _ _ _ _ _ _ _ _ _ _ _ _ _ _ _ _)
      · rw [if_neg c50] at H
        exact absurd (H.trans (congrArg some hr.out)) (refrainlaw1_ValueLogic.j0_dead _ _ _ _ _ _ _ _ _ _ _ _ _ _ _ _ _ _ _ _ _ _ _ _ _ _ _)
    case rest =>
      clear HC10
      try clear c1
      try clear c2
      try clear p2
      try clear c3
      try clear c4
      try clear c5
      try clear c6
      try clear c7
      try clear c8
      try clear c9
      try clear c10
      try clear c15
      try clear c16
      try clear c19
      try clear c20
      try clear c21
      try clear c22
      try clear c26
      try clear c27
      try clear c28
      try clear c29
      try clear c34
      try clear c35
      try clear c36
      try clear c37
      try clear c38
      try clear c43
      try clear c44
      try clear c45
      try clear c46
      try clear c47
      try clear c48
      try clear c50
      try clear c50b0
      try clear c50b1
      try clear c51
      try clear c51b0
      try clear c51b1
      try clear c52
      try clear c52b0
      try clear c52b1
      try clear c53
      try clear c53b0
      try clear c54
      try clear c55
      try clear c56
      try clear c57
      try clear c58
      try clear c59
      try clear c61
      try clear c62
      try clear c63
      try clear c64
      try clear c65
      try clear c67
      try clear c68
      try clear c69
      try clear c70
      try clear c71
      try clear c72
      try clear c74
      try clear c75
      try clear c76
      try clear c77
      try clear c78
      try clear c80
      try clear c81
      try clear c82
      try clear c83
      try clear hcz17_0 hcz17_1 hcz17_2 hcz17_3
      try clear hcz22_0 hcz22_1 hcz22_2 hcz22_3
      try clear hcz23_0 hcz23_1 hcz23_2 hcz23_3
      try clear hcz30_0 hcz30_1 hcz30_2 hcz30_3
      try clear hcz31_0 hcz31_1 hcz31_2 hcz31_3
      try clear hcz39_0 hcz39_1 hcz39_2 hcz39_3
      try clear hcz40_0 hcz40_1 hcz40_2 hcz40_3
      try clear hcz49_0 hcz49_1 hcz49_2 hcz49_3
      try clear hcz60_0 hcz60_1 hcz60_2 hcz60_3
      try clear hcz66_0 hcz66_1 hcz66_2 hcz66_3
      try clear hcz73_0 hcz73_1 hcz73_2 hcz73_3
      try clear hcz79_0 hcz79_1 hcz79_2 hcz79_3
      try clear hcz84_0 hcz84_1 hcz84_2 hcz84_3
      try clear hfz17_0 hfz17_1 hfz17_2 hfz17_3
      try clear hfz22_0 hfz22_1 hfz22_2 hfz22_3
      try clear hfz23_0 hfz23_1 hfz23_2 hfz23_3
      try clear hfz30_0 hfz30_1 hfz30_2 hfz30_3
      try clear hfz31_0 hfz31_1 hfz31_2 hfz31_3
      try clear hfz39_0 hfz39_1 hfz39_2 hfz39_3
      try clear hfz40_0 hfz40_1 hfz40_2 hfz40_3
      try clear hfz49_0 hfz49_1 hfz49_2 hfz49_3
      try clear hfz60_0 hfz60_1 hfz60_2 hfz60_3
      try clear hfz66_0 hfz66_1 hfz66_2 hfz66_3
      try clear hfz73_0 hfz73_1 hfz73_2 hfz73_3
      try clear hfz79_0 hfz79_1 hfz79_2 hfz79_3
      try clear hfz84_0 hfz84_1 hfz84_2 hfz84_3
      obtain ⟨kq, x65_9, rfl, HA, HJ9, BK513, BK514, BK516, BK517, BK523, BK529, BK535, HB⟩ := hcut
      cases kq with
      | zero => (have HA2 := HA.out; clear HA; revert HA2; rw [refrainlaw1_ValueLogic.j0_zero]; intro h_; cases h_)
      | succ kj9 =>
        have H := HA.out
        clear HA
        simp only [refrainlaw1_ValueLogic.j0] at H
        by_cases c85 : x65_9 = true
        · subst c85
          have H1 : (some false) = some r := by rw [if_pos rfl] at H; exact H
          clear H
          have H := H1
          clear H1
          exact absurd ((Option.some.inj H).trans hr.out) Bool.false_ne_true
        · replace c85 := Bool.eq_false_iff.mpr c85
          subst c85
          have H1 : (if a0 = true then ((refrainlaw1_yes.f kj9 12 3 0 (⟨#[]⟩ : ByteArray) a0 3 0 (⟨#[]⟩ : ByteArray) a1 a1).bind fun t536 => (if t536 = true then ((refrainlaw1_yes.f kj9 13 3 0 (⟨#[]⟩ : ByteArray) a0 3 0 (⟨#[]⟩ : ByteArray) a1 true).bind fun t537 => (if t537 = true then ((refrainlaw1_yes.f kj9 12 t518 t519 t520 t521 t524 t525 t526 t527 false).bind fun t538 => (if t538 = true then ((refrainlaw1_yes.f kj9 13 t518 t519 t520 t521 t524 t525 t526 t527 (!a1)).bind fun t539 => (refrainlaw1_ValueLogic.j1 kj9 (!t539) a2_0 a2_1 a2_2 a2_3 a3_0 a3_1 a3_2 a3_3)) else (refrainlaw1_ValueLogic.j1 kj9 true a2_0 a2_1 a2_2 a2_3 a3_0 a3_1 a3_2 a3_3))) else (refrainlaw1_ValueLogic.j1 kj9 true a2_0 a2_1 a2_2 a2_3 a3_0 a3_1 a3_2 a3_3))) else (refrainlaw1_ValueLogic.j1 kj9 true a2_0 a2_1 a2_2 a2_3 a3_0 a3_1 a3_2 a3_3))) else ((refrainlaw1_yes.f kj9 12 3 0 (⟨#[]⟩ : ByteArray) a0 3 0 (⟨#[]⟩ : ByteArray) a1 false).bind fun t540 => (if t540 = true then ((refrainlaw1_yes.f kj9 13 3 0 (⟨#[]⟩ : ByteArray) a0 3 0 (⟨#[]⟩ : ByteArray) a1 a1).bind fun t541 => (if t541 = true then ((refrainlaw1_yes.f kj9 12 t518 t519 t520 t521 t524 t525 t526 t527 (!a1)).bind fun t542 => (if t542 = true then ((refrainlaw1_yes.f kj9 13 t518 t519 t520 t521 t524 t525 t526 t527 true).bind fun t543 => (refrainlaw1_ValueLogic.j1 kj9 (!t543) a2_0 a2_1 a2_2 a2_3 a3_0 a3_1 a3_2 a3_3)) else (refrainlaw1_ValueLogic.j1 kj9 true a2_0 a2_1 a2_2 a2_3 a3_0 a3_1 a3_2 a3_3))) else (refrainlaw1_ValueLogic.j1 kj9 true a2_0 a2_1 a2_2 a2_3 a3_0 a3_1 a3_2 a3_3))) else (refrainlaw1_ValueLogic.j1 kj9 true a2_0 a2_1 a2_2 a2_3 a3_0 a3_1 a3_2 a3_3)))) = some r := by rw [if_neg (show ¬ (false = true) by decide)] at H; exact H
          clear H
          have H := H1
          clear H1
          have HC86 := Aside0.mk H
          clear H
          go_upto_region 11 with (fail)
          go_cut [105] (fun v105 wc => ∃ (kq : Nat) (x105_85 : Bool), v105 = .bool x105_85 ∧ Aside0 (refrainlaw1_ValueLogic.j1 kq x105_85 a2_0 a2_1 a2_2 a2_3 a3_0 a3_1 a3_2 a3_3 = some r) ∧ Aside0 (kq ≤ kj9) ∧ Aside0 (wc.heap[gb513]? = some (.cells #[.int .i64 a2_0, .int .i64 a2_1, .string a2_2, .bool a2_3] 26 (0, 0))) ∧ Aside0 (wc.heap[gb514]? = some (.cells #[.int .i64 a3_0, .int .i64 a3_1, .string a3_2, .bool a3_3] 26 (0, 0))) ∧ Aside0 (wc.heap[gb516]? = some (.cells #[.int .i64 3, .int .i64 0, .string (⟨#[]⟩ : ByteArray), .bool a0] 26 (0, 0))) ∧ Aside0 (wc.heap[gb517]? = some (.cells #[.int .i64 3, .int .i64 0, .string (⟨#[]⟩ : ByteArray), .bool a1] 26 (0, 0))) ∧ Aside0 (wc.heap[gb523]? = some (.cells #[.int .i64 t518, .int .i64 t519, .string t520, .bool t521] 26 (0, 0))) ∧ Aside0 (wc.heap[gb529]? = some (.cells #[.int .i64 t524, .int .i64 t525, .string t526, .bool t527] 26 (0, 0))) ∧ Aside0 (wc.heap[gb535]? = some (.cells #[.int .i64 t530, .int .i64 t531, .string t532, .bool t533] 26 (0, 0))) ∧ Aside0 (Below w.heap.size w wc))
          case first =>
            have H := HC86.out
            clear HC86
            by_cases c87 : a0 = true
            · subst c87
              have H1 : ((refrainlaw1_yes.f kj9 12 3 0 (⟨#[]⟩ : ByteArray) true 3 0 (⟨#[]⟩ : ByteArray) a1 a1).bind fun t536 => (if t536 = true then ((refrainlaw1_yes.f kj9 13 3 0 (⟨#[]⟩ : ByteArray) true 3 0 (⟨#[]⟩ : ByteArray) a1 true).bind fun t537 => (if t537 = true then ((refrainlaw1_yes.f kj9 12 t518 t519 t520 t521 t524 t525 t526 t527 false).bind fun t538 => (if t538 = true then ((refrainlaw1_yes.f kj9 13 t518 t519 t520 t521 t524 t525 t526 t527 (!a1)).bind fun t539 => (refrainlaw1_ValueLogic.j1 kj9 (!t539) a2_0 a2_1 a2_2 a2_3 a3_0 a3_1 a3_2 a3_3)) else (refrainlaw1_ValueLogic.j1 kj9 true a2_0 a2_1 a2_2 a2_3 a3_0 a3_1 a3_2 a3_3))) else (refrainlaw1_ValueLogic.j1 kj9 true a2_0 a2_1 a2_2 a2_3 a3_0 a3_1 a3_2 a3_3))) else (refrainlaw1_ValueLogic.j1 kj9 true a2_0 a2_1 a2_2 a2_3 a3_0 a3_1 a3_2 a3_3))) = some r := by rw [if_pos rfl] at H; exact H
              clear H
              have H := H1
              clear H1
              replace H := Option.bind_eq_some_iff.mp H
              obtain ⟨t536, A880, H⟩ := H
              replace H : (if t536 = true then ((refrainlaw1_yes.f kj9 13 3 0 (⟨#[]⟩ : ByteArray) true 3 0 (⟨#[]⟩ : ByteArray) a1 true).bind fun t537 => (if t537 = true then ((refrainlaw1_yes.f kj9 12 t518 t519 t520 t521 t524 t525 t526 t527 false).bind fun t538 => (if t538 = true then ((refrainlaw1_yes.f kj9 13 t518 t519 t520 t521 t524 t525 t526 t527 (!a1)).bind fun t539 => (refrainlaw1_ValueLogic.j1 kj9 (!t539) a2_0 a2_1 a2_2 a2_3 a3_0 a3_1 a3_2 a3_3)) else (refrainlaw1_ValueLogic.j1 kj9 true a2_0 a2_1 a2_2 a2_3 a3_0 a3_1 a3_2 a3_3))) else (refrainlaw1_ValueLogic.j1 kj9 true a2_0 a2_1 a2_2 a2_3 a3_0 a3_1 a3_2 a3_3))) else (refrainlaw1_ValueLogic.j1 kj9 true a2_0 a2_1 a2_2 a2_3 a3_0 a3_1 a3_2 a3_3)) = some r := H
              have A88 := Aside0.mk A880
              clear A880
              by_cases c89 : t536 = true
              · subst c89
                have H1 : ((refrainlaw1_yes.f kj9 13 3 0 (⟨#[]⟩ : ByteArray) true 3 0 (⟨#[]⟩ : ByteArray) a1 true).bind fun t537 => (if t537 = true then ((refrainlaw1_yes.f kj9 12 t518 t519 t520 t521 t524 t525 t526 t527 false).bind fun t538 => (if t538 = true then ((refrainlaw1_yes.f kj9 13 t518 t519 t520 t521 t524 t525 t526 t527 (!a1)).bind fun t539 => (refrainlaw1_ValueLogic.j1 kj9 (!t539) a2_0 a2_1 a2_2 a2_3 a3_0 a3_1 a3_2 a3_3)) else (refrainlaw1_ValueLogic.j1 kj9 true a2_0 a2_1 a2_2 a2_3 a3_0 a3_1 a3_2 a3_3))) else (refrainlaw1_ValueLogic.j1 kj9 true a2_0 a2_1 a2_2 a2_3 a3_0 a3_1 a3_2 a3_3))) = some r := by rw [if_pos rfl] at H; exact H
                clear H
                have H := H1
                clear H1
                replace H := Option.bind_eq_some_iff.mp H
                obtain ⟨t537, A900, H⟩ := H
                replace H : (if t537 = true then ((refrainlaw1_yes.f kj9 12 t518 t519 t520 t521 t524 t525 t526 t527 false).bind fun t538 => (if t538 = true then ((refrainlaw1_yes.f kj9 13 t518 t519 t520 t521 t524 t525 t526 t527 (!a1)).bind fun t539 => (refrainlaw1_ValueLogic.j1 kj9 (!t539) a2_0 a2_1 a2_2 a2_3 a3_0 a3_1 a3_2 a3_3)) else (refrainlaw1_ValueLogic.j1 kj9 true a2_0 a2_1 a2_2 a2_3 a3_0 a3_1 a3_2 a3_3))) else (refrainlaw1_ValueLogic.j1 kj9 true a2_0 a2_1 a2_2 a2_3 a3_0 a3_1 a3_2 a3_3)) = some r := H
                have A90 := Aside0.mk A900
                clear A900
                by_cases c91 : t537 = true
                · subst c91
                  have H1 : ((refrainlaw1_yes.f kj9 12 t518 t519 t520 t521 t524 t525 t526 t527 false).bind fun t538 => (if t538 = true then ((refrainlaw1_yes.f kj9 13 t518 t519 t520 t521 t524 t525 t526 t527 (!a1)).bind fun t539 => (refrainlaw1_ValueLogic.j1 kj9 (!t539) a2_0 a2_1 a2_2 a2_3 a3_0 a3_1 a3_2 a3_3)) else (refrainlaw1_ValueLogic.j1 kj9 true a2_0 a2_1 a2_2 a2_3 a3_0 a3_1 a3_2 a3_3))) = some r := by rw [if_pos rfl] at H; exact H
                  clear H
                  have H := H1
                  clear H1
                  replace H := Option.bind_eq_some_iff.mp H
                  obtain ⟨t538, A920, H⟩ := H
                  replace H : (if t538 = true then ((refrainlaw1_yes.f kj9 13 t518 t519 t520 t521 t524 t525 t526 t527 (!a1)).bind fun t539 => (refrainlaw1_ValueLogic.j1 kj9 (!t539) a2_0 a2_1 a2_2 a2_3 a3_0 a3_1 a3_2 a3_3)) else (refrainlaw1_ValueLogic.j1 kj9 true a2_0 a2_1 a2_2 a2_3 a3_0 a3_1 a3_2 a3_3)) = some r := H
                  have A92 := Aside0.mk A920
                  clear A920
                  by_cases c93 : t538 = true
                  · subst c93
                    have H1 : ((refrainlaw1_yes.f kj9 13 t518 t519 t520 t521 t524 t525 t526 t527 (!a1)).bind fun t539 => (refrainlaw1_ValueLogic.j1 kj9 (!t539) a2_0 a2_1 a2_2 a2_3 a3_0 a3_1 a3_2 a3_3)) = some r := by rw [if_pos rfl] at H; exact H
                    clear H
                    have H := H1
                    clear H1
                    replace H := Option.bind_eq_some_iff.mp H
                    obtain ⟨t539, A940, H⟩ := H
                    replace H : (refrainlaw1_ValueLogic.j1 kj9 (!t539) a2_0 a2_1 a2_2 a2_3 a3_0 a3_1 a3_2 a3_3) = some r := H
                    have A94 := Aside0.mk A940
                    clear A940
                    have H' := Aside0.mk H
                    clear H; have hnb95 := NB516_513.out
                    have hnc95 := NB513_516.out; have hnb96 := NB516_514.out; have hnc96 := NB514_516.out; have hnb97 := NB516_517.out; have hnc97 := NB517_516.out; have hnb98 := NB516_523.out; have hnc98 := NB523_516.out; have hnb99 := NB516_529.out; have hnc99 := NB529_516.out; have hnb100 := NB516_535.out; have hnc100 := NB535_516.out; have hcz101_0 : wc.cell? ⟨gb516, 0, none⟩ = some (.int .i64 3) := (blk_cell BK516.out 0).trans rfl; have hcz101_1 : wc.cell? ⟨gb516, 1, none⟩ = some (.int .i64 0) := (blk_cell BK516.out 1).trans rfl; have hcz101_2 : wc.cell? ⟨gb516, 2, none⟩ = some (.string (⟨#[]⟩ : ByteArray)) := (blk_cell BK516.out 2).trans rfl; have hcz101_3 : wc.cell? ⟨gb516, 3, none⟩ = some (.bool true) := (blk_cell BK516.out 3).trans rfl; have hfz101_0 := blk_frozen BK516.out 0; have hfz101_1 := blk_frozen BK516.out 1; have hfz101_2 := blk_frozen BK516.out 2; have hfz101_3 := blk_frozen BK516.out 3; have hnb102 := NB517_513.out; have hnc102 := NB513_517.out; have hnb103 := NB517_514.out; have hnc103 := NB514_517.out; have hnb104 := NB517_523.out; have hnc104 := NB523_517.out; have hnb105 := NB517_529.out; have hnc105 := NB529_517.out; have hnb106 := NB517_535.out; have hnc106 := NB535_517.out; have hcz107_0 : wc.cell? ⟨gb517, 0, none⟩ = some (.int .i64 3) := (blk_cell BK517.out 0).trans rfl; have hcz107_1 : wc.cell? ⟨gb517, 1, none⟩ = some (.int .i64 0) := (blk_cell BK517.out 1).trans rfl; have hcz107_2 : wc.cell? ⟨gb517, 2, none⟩ = some (.string (⟨#[]⟩ : ByteArray)) := (blk_cell BK517.out 2).trans rfl; have hcz107_3 : wc.cell? ⟨gb517, 3, none⟩ = some (.bool a1) := (blk_cell BK517.out 3).trans rfl; have hfz107_0 := blk_frozen BK517.out 0; have hfz107_1 := blk_frozen BK517.out 1; have hfz107_2 := blk_frozen BK517.out 2; have hfz107_3 := blk_frozen BK517.out 3
                    have ht539 : t539 = true := by
                      have h_ := H'.out
                      rw [hr.out] at h_
                      cases t539 with
                      | false => exact absurd h_ (refrainlaw1_ValueLogic.j1_dead _ _ _ _ _ _ _ _ _)
                      | true => rfl
                    go_wp2_with (first | ((with_reducible refine gate_callee (f := 25) rfl ?_); refine goesT (some 72) Tryd.func25 #[.int .i64 12, .agg #[.int .i64 3, .int .i64 0, .string (⟨#[]⟩ : ByteArray), .bool true], .agg #[.int .i64 3, .int .i64 0, .string (⟨#[]⟩ : ByteArray), .bool a1], .bool a1] ?_; (with_reducible refine (refrainlaw1_yes.calls kj9 12 3 0 (⟨#[]⟩ : ByteArray) true 3 0 (⟨#[]⟩ : ByteArray) a1 a1 true _ ?side1 A88.out (by first | rfl | exact hr.out)).mono ?_); (case side1 => first | (with_reducible exact HL_LG0) | exact ⟨LG0.below HL_LG0.out (hbT HB.out)⟩); rintro e w108 ⟨rfl, hb⟩; refine ⟨_, rfl, ?_⟩; replace BK513 := bbA BK513 hb; replace BK514 := bbA BK514 hb; replace BK516 := bbA BK516 hb; replace BK517 := bbA BK517 hb; replace BK523 := bbA BK523 hb; replace BK529 := bbA BK529 hb; replace BK535 := bbA BK535 hb; replace HB := bsA HB hb; (try clear hb); (try clear hb2); (try clear hk); (try clear hi); have hcz109_0 : w108.cell? ⟨gb516, 0, none⟩ = some (.int .i64 3) := (blk_cell BK516.out 0).trans rfl; have hcz109_1 : w108.cell? ⟨gb516, 1, none⟩ = some (.int .i64 0) := (blk_cell BK516.out 1).trans rfl; have hcz109_2 : w108.cell? ⟨gb516, 2, none⟩ = some (.string (⟨#[]⟩ : ByteArray)) := (blk_cell BK516.out 2).trans rfl; have hcz109_3 : w108.cell? ⟨gb516, 3, none⟩ = some (.bool true) := (blk_cell BK516.out 3).trans rfl; have hfz109_0 := blk_frozen BK516.out 0; have hfz109_1 := blk_frozen BK516.out 1; have hfz109_2 := blk_frozen BK516.out 2; have hfz109_3 := blk_frozen BK516.out 3; have hcz110_0 : w108.cell? ⟨gb517, 0, none⟩ = some (.int .i64 3) := (blk_cell BK517.out 0).trans rfl; have hcz110_1 : w108.cell? ⟨gb517, 1, none⟩ = some (.int .i64 0) := (blk_cell BK517.out 1).trans rfl; have hcz110_2 : w108.cell? ⟨gb517, 2, none⟩ = some (.string (⟨#[]⟩ : ByteArray)) := (blk_cell BK517.out 2).trans rfl; have hcz110_3 : w108.cell? ⟨gb517, 3, none⟩ = some (.bool a1) := (blk_cell BK517.out 3).trans rfl; have hfz110_0 := blk_frozen BK517.out 0; have hfz110_1 := blk_frozen BK517.out 1; have hfz110_2 := blk_frozen BK517.out 2; have hfz110_3 := blk_frozen BK517.out 3) | (go_at_call 25; (with_reducible refine (refrainlaw1_yes.calls kj9 13 3 0 (⟨#[]⟩ : ByteArray) true 3 0 (⟨#[]⟩ : ByteArray) a1 true true _ ?side1 A90.out (by first | rfl | exact hr.out)).mono ?_); (case side1 => first | (with_reducible exact HL_LG0) | exact ⟨LG0.below HL_LG0.out (hbT HB.out)⟩); rintro e w111 ⟨rfl, hb⟩; replace BK513 := bbA BK513 hb; replace BK514 := bbA BK514 hb; replace BK516 := bbA BK516 hb; replace BK517 := bbA BK517 hb; replace BK523 := bbA BK523 hb; replace BK529 := bbA BK529 hb; replace BK535 := bbA BK535 hb; replace HB := bsA HB hb; (try clear hb); (try clear hb2); (try clear hk); (try clear hi); have hnb112 := NB523_513.out; have hnc112 := NB513_523.out; have hnb113 := NB523_514.out; have hnc113 := NB514_523.out; have hnb114 := NB523_529.out; have hnc114 := NB529_523.out; have hnb115 := NB523_535.out; have hnc115 := NB535_523.out; have hcz116_0 : w111.cell? ⟨gb523, 0, none⟩ = some (.int .i64 t518) := (blk_cell BK523.out 0).trans rfl; have hcz116_1 : w111.cell? ⟨gb523, 1, none⟩ = some (.int .i64 t519) := (blk_cell BK523.out 1).trans rfl; have hcz116_2 : w111.cell? ⟨gb523, 2, none⟩ = some (.string t520) := (blk_cell BK523.out 2).trans rfl; have hcz116_3 : w111.cell? ⟨gb523, 3, none⟩ = some (.bool t521) := (blk_cell BK523.out 3).trans rfl; have hfz116_0 := blk_frozen BK523.out 0; have hfz116_1 := blk_frozen BK523.out 1; have hfz116_2 := blk_frozen BK523.out 2; have hfz116_3 := blk_frozen BK523.out 3; have hnb117 := NB529_513.out; have hnc117 := NB513_529.out; have hnb118 := NB529_514.out; have hnc118 := NB514_529.out; have hnb119 := NB529_535.out; have hnc119 := NB535_529.out; have hcz120_0 : w111.cell? ⟨gb529, 0, none⟩ = some (.int .i64 t524) := (blk_cell BK529.out 0).trans rfl; have hcz120_1 : w111.cell? ⟨gb529, 1, none⟩ = some (.int .i64 t525) := (blk_cell BK529.out 1).trans rfl; have hcz120_2 : w111.cell? ⟨gb529, 2, none⟩ = some (.string t526) := (blk_cell BK529.out 2).trans rfl; have hcz120_3 : w111.cell? ⟨gb529, 3, none⟩ = some (.bool t527) := (blk_cell BK529.out 3).trans rfl; have hfz120_0 := blk_frozen BK529.out 0; have hfz120_1 := blk_frozen BK529.out 1; have hfz120_2 := blk_frozen BK529.out 2; have hfz120_3 := blk_frozen BK529.out 3) | (go_at_call 25; (with_reducible refine (refrainlaw1_yes.calls kj9 12 t518 t519 t520 t521 t524 t525 t526 t527 false true _ ?side1 A92.out (by first | rfl | exact hr.out)).mono ?_); (case side1 => first | (with_reducible exact HL_LG0) | exact ⟨LG0.below HL_LG0.out (hbT HB.out)⟩); rintro e w121 ⟨rfl, hb⟩; replace BK513 := bbA BK513 hb; replace BK514 := bbA BK514 hb; replace BK516 := bbA BK516 hb; replace BK517 := bbA BK517 hb; replace BK523 := bbA BK523 hb; replace BK529 := bbA BK529 hb; replace BK535 := bbA BK535 hb; replace HB := bsA HB hb; (try clear hb); (try clear hb2); (try clear hk); (try clear hi); have hcz122_0 : w121.cell? ⟨gb523, 0, none⟩ = some (.int .i64 t518) := (blk_cell BK523.out 0).trans rfl; have hcz122_1 : w121.cell? ⟨gb523, 1, none⟩ = some (.int .i64 t519) := (blk_cell BK523.out 1).trans rfl; have hcz122_2 : w121.cell? ⟨gb523, 2, none⟩ = some (.string t520) := (blk_cell BK523.out 2).trans rfl; have hcz122_3 : w121.cell? ⟨gb523, 3, none⟩ = some (.bool t521) := (blk_cell BK523.out 3).trans rfl; have hfz122_0 := blk_frozen BK523.out 0; have hfz122_1 := blk_frozen BK523.out 1; have hfz122_2 := blk_frozen BK523.out 2; have hfz122_3 := blk_frozen BK523.out 3; have hcz123_0 : w121.cell? ⟨gb529, 0, none⟩ = some (.int .i64 t524) := (blk_cell BK529.out 0).trans rfl; have hcz123_1 : w121.cell? ⟨gb529, 1, none⟩ = some (.int .i64 t525) := (blk_cell BK529.out 1).trans rfl; have hcz123_2 : w121.cell? ⟨gb529, 2, none⟩ = some (.string t526) := (blk_cell BK529.out 2).trans rfl; have hcz123_3 : w121.cell? ⟨gb529, 3, none⟩ = some (.bool t527) := (blk_cell BK529.out 3).trans rfl; have hfz123_0 := blk_frozen BK529.out 0; have hfz123_1 := blk_frozen BK529.out 1; have hfz123_2 := blk_frozen BK529.out 2; have hfz123_3 := blk_frozen BK529.out 3) | (go_at_call 25; (with_reducible refine (refrainlaw1_yes.calls kj9 13 t518 t519 t520 t521 t524 t525 t526 t527 (!a1) t539 _ ?side1 A94.out (by first | rfl | exact hr.out | exact ht539)).mono ?_); (case side1 => first | (with_reducible exact HL_LG0) | exact ⟨LG0.below HL_LG0.out (hbT HB.out)⟩); rintro e w124 ⟨rfl, hb⟩; replace BK513 := bbA BK513 hb; replace BK514 := bbA BK514 hb; replace BK516 := bbA BK516 hb; replace BK517 := bbA BK517 hb; replace BK523 := bbA BK523 hb; replace BK529 := bbA BK529 hb; replace BK535 := bbA BK535 hb; replace HB := bsA HB hb; (try clear hb); (try clear hb2); (try clear hk); (try clear hi)))
                    go_meet
                    case rel => exact ⟨_, (!t539), (by first | rfl | (simp; done) | (simp [*]; done) | (simp; unfold wrap64; omega) | (congr 1; (try rw [Bool.eq_iff_iff]); simp [List.isEmpty_iff]; done)), H', ⟨by have := HJ9.out; first | omega | exact Nat.le_refl _⟩, ⟨bkT BK513.out⟩, ⟨bkT BK514.out⟩, ⟨bkT BK516.out⟩, ⟨bkT BK517.out⟩, ⟨bkT BK523.out⟩, ⟨bkT BK529.out⟩, ⟨bkT BK535.out⟩, ⟨hbT HB.out⟩⟩
                  · replace c93 := Bool.eq_false_iff.mpr c93
                    subst c93
                    have H1 : (refrainlaw1_ValueLogic.j1 kj9 true a2_0 a2_1 a2_2 a2_3 a3_0 a3_1 a3_2 a3_3) = some r := by rw [if_neg (show ¬ (false = true) by decide)] at H; exact H
                    exact absurd (H1.trans (congrArg some hr.out)) (refrainlaw1_ValueLogic.j1_dead _ _ _ _ _ _ _ _ _)
                · replace c91 := Bool.eq_false_iff.mpr c91
                  subst c91
                  have H1 : (refrainlaw1_ValueLogic.j1 kj9 true a2_0 a2_1 a2_2 a2_3 a3_0 a3_1 a3_2 a3_3) = some r := by rw [if_neg (show ¬ (false = true) by decide)] at H; exact H
                  exact absurd (H1.trans (congrArg some hr.out)) (refrainlaw1_ValueLogic.j1_dead _ _ _ _ _ _ _ _ _)
              · replace c89 := Bool.eq_false_iff.mpr c89
                subst c89
                have H1 : (refrainlaw1_ValueLogic.j1 kj9 true a2_0 a2_1 a2_2 a2_3 a3_0 a3_1 a3_2 a3_3) = some r := by rw [if_neg (show ¬ (false = true) by decide)] at H; exact H
                exact absurd (H1.trans (congrArg some hr.out)) (refrainlaw1_ValueLogic.j1_dead _ _ _ _ _ _ _ _ _)
            · replace c87 := Bool.eq_false_iff.mpr c87
              subst c87
              have H1 : ((refrainlaw1_yes.f kj9 12 3 0 (⟨#[]⟩ : ByteArray) false 3 0 (⟨#[]⟩ : ByteArray) a1 false).bind fun t540 => (if t540 = true then ((refrainlaw1_yes.f kj9 13 3 0 (⟨#[]⟩ : ByteArray) false 3 0 (⟨#[]⟩ : ByteArray) a1 a1).bind fun t541 => (if t541 = true then ((refrainlaw1_yes.f kj9 12 t518 t519 t520 t521 t524 t525 t526 t527 (!a1)).bind fun t542 => (if t542 = true then ((refrainlaw1_yes.f kj9 13 t518 t519 t520 t521 t524 t525 t526 t527 true).bind fun t543 => (refrainlaw1_ValueLogic.j1 kj9 (!t543) a2_0 a2_1 a2_2 a2_3 a3_0 a3_1 a3_2 a3_3)) else (refrainlaw1_ValueLogic.j1 kj9 true a2_0 a2_1 a2_2 a2_3 a3_0 a3_1 a3_2 a3_3))) else (refrainlaw1_ValueLogic.j1 kj9 true a2_0 a2_1 a2_2 a2_3 a3_0 a3_1 a3_2 a3_3))) else (refrainlaw1_ValueLogic.j1 kj9 true a2_0 a2_1 a2_2 a2_3 a3_0 a3_1 a3_2 a3_3))) = some r := by rw [if_neg (show ¬ (false = true) by decide)] at H; exact H
              clear H
              have H := H1
              clear H1
              replace H := Option.bind_eq_some_iff.mp H
              obtain ⟨t540, A1830, H⟩ := H
              replace H : (if t540 = true then ((refrainlaw1_yes.f kj9 13 3 0 (⟨#[]⟩ : ByteArray) false 3 0 (⟨#[]⟩ : ByteArray) a1 a1).bind fun t541 => (if t541 = true then ((refrainlaw1_yes.f kj9 12 t518 t519 t520 t521 t524 t525 t526 t527 (!a1)).bind fun t542 => (if t542 = true then ((refrainlaw1_yes.f kj9 13 t518 t519 t520 t521 t524 t525 t526 t527 true).bind fun t543 => (refrainlaw1_ValueLogic.j1 kj9 (!t543) a2_0 a2_1 a2_2 a2_3 a3_0 a3_1 a3_2 a3_3)) else (refrainlaw1_ValueLogic.j1 kj9 true a2_0 a2_1 a2_2 a2_3 a3_0 a3_1 a3_2 a3_3))) else (refrainlaw1_ValueLogic.j1 kj9 true a2_0 a2_1 a2_2 a2_3 a3_0 a3_1 a3_2 a3_3))) else (refrainlaw1_ValueLogic.j1 kj9 true a2_0 a2_1 a2_2 a2_3 a3_0 a3_1 a3_2 a3_3)) = some r := H
              have A183 := Aside0.mk A1830
              clear A1830
              by_cases c184 : t540 = true
              · subst c184
                have H1 : ((refrainlaw1_yes.f kj9 13 3 0 (⟨#[]⟩ : ByteArray) false 3 0 (⟨#[]⟩ : ByteArray) a1 a1).bind fun t541 => (if t541 = true then ((refrainlaw1_yes.f kj9 12 t518 t519 t520 t521 t524 t525 t526 t527 (!a1)).bind fun t542 => (if t542 = true then ((refrainlaw1_yes.f kj9 13 t518 t519 t520 t521 t524 t525 t526 t527 true).bind fun t543 => (refrainlaw1_ValueLogic.j1 kj9 (!t543) a2_0 a2_1 a2_2 a2_3 a3_0 a3_1 a3_2 a3_3)) else (refrainlaw1_ValueLogic.j1 kj9 true a2_0 a2_1 a2_2 a2_3 a3_0 a3_1 a3_2 a3_3))) else (refrainlaw1_ValueLogic.j1 kj9 true a2_0 a2_1 a2_2 a2_3 a3_0 a3_1 a3_2 a3_3))) = some r := by rw [if_pos rfl] at H; exact H
                clear H
                have H := H1
                clear H1
                replace H := Option.bind_eq_some_iff.mp H
                obtain ⟨t541, A1850, H⟩ := H
                replace H : (if t541 = true then ((refrainlaw1_yes.f kj9 12 t518 t519 t520 t521 t524 t525 t526 t527 (!a1)).bind fun t542 => (if t542 = true then ((refrainlaw1_yes.f kj9 13 t518 t519 t520 t521 t524 t525 t526 t527 true).bind fun t543 => (refrainlaw1_ValueLogic.j1 kj9 (!t543) a2_0 a2_1 a2_2 a2_3 a3_0 a3_1 a3_2 a3_3)) else (refrainlaw1_ValueLogic.j1 kj9 true a2_0 a2_1 a2_2 a2_3 a3_0 a3_1 a3_2 a3_3))) else (refrainlaw1_ValueLogic.j1 kj9 true a2_0 a2_1 a2_2 a2_3 a3_0 a3_1 a3_2 a3_3)) = some r := H
                have A185 := Aside0.mk A1850
                clear A1850
                by_cases c186 : t541 = true
                · subst c186
                  have H1 : ((refrainlaw1_yes.f kj9 12 t518 t519 t520 t521 t524 t525 t526 t527 (!a1)).bind fun t542 => (if t542 = true then ((refrainlaw1_yes.f kj9 13 t518 t519 t520 t521 t524 t525 t526 t527 true).bind fun t543 => (refrainlaw1_ValueLogic.j1 kj9 (!t543) a2_0 a2_1 a2_2 a2_3 a3_0 a3_1 a3_2 a3_3)) else (refrainlaw1_ValueLogic.j1 kj9 true a2_0 a2_1 a2_2 a2_3 a3_0 a3_1 a3_2 a3_3))) = some r := by rw [if_pos rfl] at H; exact H
                  clear H
                  have H := H1
                  clear H1
                  replace H := Option.bind_eq_some_iff.mp H
                  obtain ⟨t542, A1870, H⟩ := H
                  replace H : (if t542 = true then ((refrainlaw1_yes.f kj9 13 t518 t519 t520 t521 t524 t525 t526 t527 true).bind fun t543 => (refrainlaw1_ValueLogic.j1 kj9 (!t543) a2_0 a2_1 a2_2 a2_3 a3_0 a3_1 a3_2 a3_3)) else (refrainlaw1_ValueLogic.j1 kj9 true a2_0 a2_1 a2_2 a2_3 a3_0 a3_1 a3_2 a3_3)) = some r := H
                  have A187 := Aside0.mk A1870
                  clear A1870
                  by_cases c188 : t542 = true
                  · subst c188
                    have H1 : ((refrainlaw1_yes.f kj9 13 t518 t519 t520 t521 t524 t525 t526 t527 true).bind fun t543 => (refrainlaw1_ValueLogic.j1 kj9 (!t543) a2_0 a2_1 a2_2 a2_3 a3_0 a3_1 a3_2 a3_3)) = some r := by rw [if_pos rfl] at H; exact H
                    clear H
                    have H := H1
                    clear H1
                    replace H := Option.bind_eq_some_iff.mp H
                    obtain ⟨t543, A1890, H⟩ := H
                    replace H : (refrainlaw1_ValueLogic.j1 kj9 (!t543) a2_0 a2_1 a2_2 a2_3 a3_0 a3_1 a3_2 a3_3) = some r := H
                    have A189 := Aside0.mk A1890
                    clear A1890
                    have H' := Aside0.mk H
                    clear H; have hnb190 := NB516_513.out
                    have hnc190 := NB513_516.out; have hnb191 := NB516_514.out; have hnc191 := NB514_516.out; have hnb192 := NB516_517.out; have hnc192 := NB517_516.out; have hnb193 := NB516_523.out; have hnc193 := NB523_516.out; have hnb194 := NB516_529.out; have hnc194 := NB529_516.out; have hnb195 := NB516_535.out; have hnc195 := NB535_516.out; have hcz196_0 : wc.cell? ⟨gb516, 0, none⟩ = some (.int .i64 3) := (blk_cell BK516.out 0).trans rfl; have hcz196_1 : wc.cell? ⟨gb516, 1, none⟩ = some (.int .i64 0) := (blk_cell BK516.out 1).trans rfl; have hcz196_2 : wc.cell? ⟨gb516, 2, none⟩ = some (.string (⟨#[]⟩ : ByteArray)) := (blk_cell BK516.out 2).trans rfl; have hcz196_3 : wc.cell? ⟨gb516, 3, none⟩ = some (.bool false) := (blk_cell BK516.out 3).trans rfl; have hfz196_0 := blk_frozen BK516.out 0; have hfz196_1 := blk_frozen BK516.out 1; have hfz196_2 := blk_frozen BK516.out 2; have hfz196_3 := blk_frozen BK516.out 3; have hnb197 := NB517_513.out; have hnc197 := NB513_517.out; have hnb198 := NB517_514.out; have hnc198 := NB514_517.out; have hnb199 := NB517_523.out; have hnc199 := NB523_517.out; have hnb200 := NB517_529.out; have hnc200 := NB529_517.out; have hnb201 := NB517_535.out; have hnc201 := NB535_517.out; have hcz202_0 : wc.cell? ⟨gb517, 0, none⟩ = some (.int .i64 3) := (blk_cell BK517.out 0).trans rfl; have hcz202_1 : wc.cell? ⟨gb517, 1, none⟩ = some (.int .i64 0) := (blk_cell BK517.out 1).trans rfl; have hcz202_2 : wc.cell? ⟨gb517, 2, none⟩ = some (.string (⟨#[]⟩ : ByteArray)) := (blk_cell BK517.out 2).trans rfl; have hcz202_3 : wc.cell? ⟨gb517, 3, none⟩ = some (.bool a1) := (blk_cell BK517.out 3).trans rfl; have hfz202_0 := blk_frozen BK517.out 0; have hfz202_1 := blk_frozen BK517.out 1; have hfz202_2 := blk_frozen BK517.out 2; have hfz202_3 := blk_frozen BK517.out 3
                    have ht543 : t543 = true := by
                      have h_ := H'.out
                      rw [hr.out] at h_
                      cases t543 with
                      | false => exact absurd h_ (refrainlaw1_ValueLogic.j1_dead _ _ _ _ _ _ _ _ _)
                      | true => rfl
                    go_wp2_with (first | ((with_reducible refine gate_callee (f := 25) rfl ?_); refine goesT (some 72) Tryd.func25 #[.int .i64 12, .agg #[.int .i64 3, .int .i64 0, .string (⟨#[]⟩ : ByteArray), .bool false], .agg #[.int .i64 3, .int .i64 0, .string (⟨#[]⟩ : ByteArray), .bool a1], .bool false] ?_; (with_reducible refine (refrainlaw1_yes.calls kj9 12 3 0 (⟨#[]⟩ : ByteArray) false 3 0 (⟨#[]⟩ : ByteArray) a1 false true _ ?side1 A183.out (by first | rfl | exact hr.out)).mono ?_); (case side1 => first | (with_reducible exact HL_LG0) | exact ⟨LG0.below HL_LG0.out (hbT HB.out)⟩); rintro e w203 ⟨rfl, hb⟩; refine ⟨_, rfl, ?_⟩; replace BK513 := bbA BK513 hb; replace BK514 := bbA BK514 hb; replace BK516 := bbA BK516 hb; replace BK517 := bbA BK517 hb; replace BK523 := bbA BK523 hb; replace BK529 := bbA BK529 hb; replace BK535 := bbA BK535 hb; replace HB := bsA HB hb; (try clear hb); (try clear hb2); (try clear hk); (try clear hi); have hcz204_0 : w203.cell? ⟨gb516, 0, none⟩ = some (.int .i64 3) := (blk_cell BK516.out 0).trans rfl; have hcz204_1 : w203.cell? ⟨gb516, 1, none⟩ = some (.int .i64 0) := (blk_cell BK516.out 1).trans rfl; have hcz204_2 : w203.cell? ⟨gb516, 2, none⟩ = some (.string (⟨#[]⟩ : ByteArray)) := (blk_cell BK516.out 2).trans rfl; have hcz204_3 : w203.cell? ⟨gb516, 3, none⟩ = some (.bool false) := (blk_cell BK516.out 3).trans rfl; have hfz204_0 := blk_frozen BK516.out 0; have hfz204_1 := blk_frozen BK516.out 1; have hfz204_2 := blk_frozen BK516.out 2; have hfz204_3 := blk_frozen BK516.out 3; have hcz205_0 : w203.cell? ⟨gb517, 0, none⟩ = some (.int .i64 3) := (blk_cell BK517.out 0).trans rfl; have hcz205_1 : w203.cell? ⟨gb517, 1, none⟩ = some (.int .i64 0) := (blk_cell BK517.out 1).trans rfl; have hcz205_2 : w203.cell? ⟨gb517, 2, none⟩ = some (.string (⟨#[]⟩ : ByteArray)) := (blk_cell BK517.out 2).trans rfl; have hcz205_3 : w203.cell? ⟨gb517, 3, none⟩ = some (.bool a1) := (blk_cell BK517.out 3).trans rfl; have hfz205_0 := blk_frozen BK517.out 0; have hfz205_1 := blk_frozen BK517.out 1; have hfz205_2 := blk_frozen BK517.out 2; have hfz205_3 := blk_frozen BK517.out 3) | (go_at_call 25; (with_reducible refine (refrainlaw1_yes.calls kj9 13 3 0 (⟨#[]⟩ : ByteArray) false 3 0 (⟨#[]⟩ : ByteArray) a1 a1 true _ ?side1 A185.out (by first | rfl | exact hr.out)).mono ?_); (case side1 => first | (with_reducible exact HL_LG0) | exact ⟨LG0.below HL_LG0.out (hbT HB.out)⟩); rintro e w206 ⟨rfl, hb⟩; replace BK513 := bbA BK513 hb; replace BK514 := bbA BK514 hb; replace BK516 := bbA BK516 hb; replace BK517 := bbA BK517 hb; replace BK523 := bbA BK523 hb; replace BK529 := bbA BK529 hb; replace BK535 := bbA BK535 hb; replace HB := bsA HB hb; (try clear hb); (try clear hb2); (try clear hk); (try clear hi); have hnb207 := NB523_513.out; have hnc207 := NB513_523.out; have hnb208 := NB523_514.out; have hnc208 := NB514_523.out; have hnb209 := NB523_529.out; have hnc209 := NB529_523.out; have hnb210 := NB523_535.out; have hnc210 := NB535_523.out; have hcz211_0 : w206.cell? ⟨gb523, 0, none⟩ = some (.int .i64 t518) := (blk_cell BK523.out 0).trans rfl; have hcz211_1 : w206.cell? ⟨gb523, 1, none⟩ = some (.int .i64 t519) := (blk_cell BK523.out 1).trans rfl; have hcz211_2 : w206.cell? ⟨gb523, 2, none⟩ = some (.string t520) := (blk_cell BK523.out 2).trans rfl; have hcz211_3 : w206.cell? ⟨gb523, 3, none⟩ = some (.bool t521) := (blk_cell BK523.out 3).trans rfl; have hfz211_0 := blk_frozen BK523.out 0; have hfz211_1 := blk_frozen BK523.out 1; have hfz211_2 := blk_frozen BK523.out 2; have hfz211_3 := blk_frozen BK523.out 3; have hnb212 := NB529_513.out; have hnc212 := NB513_529.out; have hnb213 := NB529_514.out; have hnc213 := NB514_529.out; have hnb214 := NB529_535.out; have hnc214 := NB535_529.out; have hcz215_0 : w206.cell? ⟨gb529, 0, none⟩ = some (.int .i64 t524) := (blk_cell BK529.out 0).trans rfl; have hcz215_1 : w206.cell? ⟨gb529, 1, none⟩ = some (.int .i64 t525) := (blk_cell BK529.out 1).trans rfl; have hcz215_2 : w206.cell? ⟨gb529, 2, none⟩ = some (.string t526) := (blk_cell BK529.out 2).trans rfl; have hcz215_3 : w206.cell? ⟨gb529, 3, none⟩ = some (.bool t527) := (blk_cell BK529.out 3).trans rfl; have hfz215_0 := blk_frozen BK529.out 0; have hfz215_1 := blk_frozen BK529.out 1; have hfz215_2 := blk_frozen BK529.out 2; have hfz215_3 := blk_frozen BK529.out 3) | (go_at_call 25; (with_reducible refine (refrainlaw1_yes.calls kj9 12 t518 t519 t520 t521 t524 t525 t526 t527 (!a1) true _ ?side1 A187.out (by first | rfl | exact hr.out)).mono ?_); (case side1 => first | (with_reducible exact HL_LG0) | exact ⟨LG0.below HL_LG0.out (hbT HB.out)⟩); rintro e w216 ⟨rfl, hb⟩; replace BK513 := bbA BK513 hb; replace BK514 := bbA BK514 hb; replace BK516 := bbA BK516 hb; replace BK517 := bbA BK517 hb; replace BK523 := bbA BK523 hb; replace BK529 := bbA BK529 hb; replace BK535 := bbA BK535 hb; replace HB := bsA HB hb; (try clear hb); (try clear hb2); (try clear hk); (try clear hi); have hcz217_0 : w216.cell? ⟨gb523, 0, none⟩ = some (.int .i64 t518) := (blk_cell BK523.out 0).trans rfl; have hcz217_1 : w216.cell? ⟨gb523, 1, none⟩ = some (.int .i64 t519) := (blk_cell BK523.out 1).trans rfl; have hcz217_2 : w216.cell? ⟨gb523, 2, none⟩ = some (.string t520) := (blk_cell BK523.out 2).trans rfl; have hcz217_3 : w216.cell? ⟨gb523, 3, none⟩ = some (.bool t521) := (blk_cell BK523.out 3).trans rfl; have hfz217_0 := blk_frozen BK523.out 0; have hfz217_1 := blk_frozen BK523.out 1; have hfz217_2 := blk_frozen BK523.out 2; have hfz217_3 := blk_frozen BK523.out 3; have hcz218_0 : w216.cell? ⟨gb529, 0, none⟩ = some (.int .i64 t524) := (blk_cell BK529.out 0).trans rfl; have hcz218_1 : w216.cell? ⟨gb529, 1, none⟩ = some (.int .i64 t525) := (blk_cell BK529.out 1).trans rfl; have hcz218_2 : w216.cell? ⟨gb529, 2, none⟩ = some (.string t526) := (blk_cell BK529.out 2).trans rfl; have hcz218_3 : w216.cell? ⟨gb529, 3, none⟩ = some (.bool t527) := (blk_cell BK529.out 3).trans rfl; have hfz218_0 := blk_frozen BK529.out 0; have hfz218_1 := blk_frozen BK529.out 1; have hfz218_2 := blk_frozen BK529.out 2; have hfz218_3 := blk_frozen BK529.out 3) | (go_at_call 25; (with_reducible refine (refrainlaw1_yes.calls kj9 13 t518 t519 t520 t521 t524 t525 t526 t527 true t543 _ ?side1 A189.out (by first | rfl | exact hr.out | exact ht543)).mono ?_); (case side1 => first | (with_reducible exact HL_LG0) | exact ⟨LG0.below HL_LG0.out (hbT HB.out)⟩); rintro e w219 ⟨rfl, hb⟩; replace BK513 := bbA BK513 hb; replace BK514 := bbA BK514 hb; replace BK516 := bbA BK516 hb; replace BK517 := bbA BK517 hb; replace BK523 := bbA BK523 hb; replace BK529 := bbA BK529 hb; replace BK535 := bbA BK535 hb; replace HB := bsA HB hb; (try clear hb); (try clear hb2); (try clear hk); (try clear hi)))
                    go_meet
                    case rel => exact ⟨_, (!t543), (by first | rfl | (simp; done) | (simp [*]; done) | (simp; unfold wrap64; omega) | (congr 1; (try rw [Bool.eq_iff_iff]); simp [List.isEmpty_iff]; done)), H', ⟨by have := HJ9.out; first | omega | exact Nat.le_refl _⟩, ⟨bkT BK513.out⟩, ⟨bkT BK514.out⟩, ⟨bkT BK516.out⟩, ⟨bkT BK517.out⟩, ⟨bkT BK523.out⟩, ⟨bkT BK529.out⟩, ⟨bkT BK535.out⟩, ⟨hbT HB.out⟩⟩
                  · replace c188 := Bool.eq_false_iff.mpr c188
                    subst c188
                    have H1 : (refrainlaw1_ValueLogic.j1 kj9 true a2_0 a2_1 a2_2 a2_3 a3_0 a3_1 a3_2 a3_3) = some r := by rw [if_neg (show ¬ (false = true) by decide)] at H; exact H
                    exact absurd (H1.trans (congrArg some hr.out)) (refrainlaw1_ValueLogic.j1_dead _ _ _ _ _ _ _ _ _)
                · replace c186 := Bool.eq_false_iff.mpr c186
                  subst c186
                  have H1 : (refrainlaw1_ValueLogic.j1 kj9 true a2_0 a2_1 a2_2 a2_3 a3_0 a3_1 a3_2 a3_3) = some r := by rw [if_neg (show ¬ (false = true) by decide)] at H; exact H
                  exact absurd (H1.trans (congrArg some hr.out)) (refrainlaw1_ValueLogic.j1_dead _ _ _ _ _ _ _ _ _)
              · replace c184 := Bool.eq_false_iff.mpr c184
                subst c184
                have H1 : (refrainlaw1_ValueLogic.j1 kj9 true a2_0 a2_1 a2_2 a2_3 a3_0 a3_1 a3_2 a3_3) = some r := by rw [if_neg (show ¬ (false = true) by decide)] at H; exact H
                exact absurd (H1.trans (congrArg some hr.out)) (refrainlaw1_ValueLogic.j1_dead _ _ _ _ _ _ _ _ _)
          case rest =>
            clear HC86
            try clear c1
            try clear c2
            try clear p2
            try clear c8
            try clear c9
            try clear c10
            try clear c11
            try clear c12
            try clear c13
            try clear c14
            try clear c15
            try clear c16
            try clear c17
            try clear c18
            try clear c19
            try clear c20
            try clear c21
            try clear c22
            try clear c23
            try clear c24
            try clear c25
            try clear c26
            try clear c27
            try clear c85
            try clear c87
            try clear c89
            try clear c91
            try clear c93
            try clear c95
            try clear c96
            try clear c97
            try clear c98
            try clear c99
            try clear c100
            try clear c102
            try clear c103
            try clear c104
            try clear c105
            try clear c106
            try clear c112
            try clear c113
            try clear c114
            try clear c115
            try clear c117
            try clear c118
            try clear c119
            try clear c125
            try clear c126
            try clear c127
            try clear c128
            try clear c129
            try clear c130
            try clear c132
            try clear c133
            try clear c134
            try clear c135
            try clear c136
            try clear c142
            try clear c143
            try clear c144
            try clear c145
            try clear c147
            try clear c148
            try clear c149
            try clear c152
            try clear c153
            try clear c154
            try clear c155
            try clear c156
            try clear c157
            try clear c159
            try clear c160
            try clear c161
            try clear c162
            try clear c163
            try clear c169
            try clear c170
            try clear c171
            try clear c172
            try clear c173
            try clear c174
            try clear c176
            try clear c177
            try clear c178
            try clear c179
            try clear c180
            try clear c184
            try clear c186
            try clear c188
            try clear c190
            try clear c191
            try clear c192
            try clear c193
            try clear c194
            try clear c195
            try clear c197
            try clear c198
            try clear c199
            try clear c200
            try clear c201
            try clear c207
            try clear c208
            try clear c209
            try clear c210
            try clear c212
            try clear c213
            try clear c214
            try clear c220
            try clear c221
            try clear c222
            try clear c223
            try clear c224
            try clear c225
            try clear c227
            try clear c228
            try clear c229
            try clear c230
            try clear c231
            try clear c237
            try clear c238
            try clear c239
            try clear c240
            try clear c242
            try clear c243
            try clear c244
            try clear c247
            try clear c248
            try clear c249
            try clear c250
            try clear c251
            try clear c252
            try clear c254
            try clear c255
            try clear c256
            try clear c257
            try clear c258
            try clear c264
            try clear c265
            try clear c266
            try clear c267
            try clear c268
            try clear c269
            try clear c271
            try clear c272
            try clear c273
            try clear c274
            try clear c275
            try clear hcz101_0 hcz101_1 hcz101_2 hcz101_3
            try clear hcz107_0 hcz107_1 hcz107_2 hcz107_3
            try clear hcz109_0 hcz109_1 hcz109_2 hcz109_3
            try clear hcz110_0 hcz110_1 hcz110_2 hcz110_3
            try clear hcz116_0 hcz116_1 hcz116_2 hcz116_3
            try clear hcz120_0 hcz120_1 hcz120_2 hcz120_3
            try clear hcz122_0 hcz122_1 hcz122_2 hcz122_3
            try clear hcz123_0 hcz123_1 hcz123_2 hcz123_3
            try clear hcz131_0 hcz131_1 hcz131_2 hcz131_3
            try clear hcz137_0 hcz137_1 hcz137_2 hcz137_3
            try clear hcz139_0 hcz139_1 hcz139_2 hcz139_3
            try clear hcz140_0 hcz140_1 hcz140_2 hcz140_3
            try clear hcz146_0 hcz146_1 hcz146_2 hcz146_3
            try clear hcz150_0 hcz150_1 hcz150_2 hcz150_3
            try clear hcz158_0 hcz158_1 hcz158_2 hcz158_3
            try clear hcz164_0 hcz164_1 hcz164_2 hcz164_3
            try clear hcz166_0 hcz166_1 hcz166_2 hcz166_3
            try clear hcz167_0 hcz167_1 hcz167_2 hcz167_3
            try clear hcz175_0 hcz175_1 hcz175_2 hcz175_3
            try clear hcz181_0 hcz181_1 hcz181_2 hcz181_3
            try clear hcz196_0 hcz196_1 hcz196_2 hcz196_3
            try clear hcz202_0 hcz202_1 hcz202_2 hcz202_3
            try clear hcz204_0 hcz204_1 hcz204_2 hcz204_3
            try clear hcz205_0 hcz205_1 hcz205_2 hcz205_3
            try clear hcz211_0 hcz211_1 hcz211_2 hcz211_3
            try clear hcz215_0 hcz215_1 hcz215_2 hcz215_3
            try clear hcz217_0 hcz217_1 hcz217_2 hcz217_3
            try clear hcz218_0 hcz218_1 hcz218_2 hcz218_3
            try clear hcz226_0 hcz226_1 hcz226_2 hcz226_3
            try clear hcz22_0 hcz22_1 hcz22_2 hcz22_3
            try clear hcz232_0 hcz232_1 hcz232_2 hcz232_3
            try clear hcz234_0 hcz234_1 hcz234_2 hcz234_3
            try clear hcz235_0 hcz235_1 hcz235_2 hcz235_3
            try clear hcz23_0 hcz23_1 hcz23_2 hcz23_3
            try clear hcz241_0 hcz241_1 hcz241_2 hcz241_3
            try clear hcz245_0 hcz245_1 hcz245_2 hcz245_3
            try clear hcz253_0 hcz253_1 hcz253_2 hcz253_3
            try clear hcz259_0 hcz259_1 hcz259_2 hcz259_3
            try clear hcz261_0 hcz261_1 hcz261_2 hcz261_3
            try clear hcz262_0 hcz262_1 hcz262_2 hcz262_3
            try clear hcz270_0 hcz270_1 hcz270_2 hcz270_3
            try clear hcz276_0 hcz276_1 hcz276_2 hcz276_3
            try clear hcz30_0 hcz30_1 hcz30_2 hcz30_3
            try clear hcz31_0 hcz31_1 hcz31_2 hcz31_3
            try clear hcz39_0 hcz39_1 hcz39_2 hcz39_3
            try clear hcz40_0 hcz40_1 hcz40_2 hcz40_3
            try clear hcz49_0 hcz49_1 hcz49_2 hcz49_3
            try clear hcz60_0 hcz60_1 hcz60_2 hcz60_3
            try clear hcz66_0 hcz66_1 hcz66_2 hcz66_3
            try clear hcz73_0 hcz73_1 hcz73_2 hcz73_3
            try clear hcz79_0 hcz79_1 hcz79_2 hcz79_3
            try clear hcz84_0 hcz84_1 hcz84_2 hcz84_3
            try clear hfz101_0 hfz101_1 hfz101_2 hfz101_3
            try clear hfz107_0 hfz107_1 hfz107_2 hfz107_3
            try clear hfz109_0 hfz109_1 hfz109_2 hfz109_3
            try clear hfz110_0 hfz110_1 hfz110_2 hfz110_3
            try clear hfz116_0 hfz116_1 hfz116_2 hfz116_3
            try clear hfz120_0 hfz120_1 hfz120_2 hfz120_3
            try clear hfz122_0 hfz122_1 hfz122_2 hfz122_3
            try clear hfz123_0 hfz123_1 hfz123_2 hfz123_3
            try clear hfz131_0 hfz131_1 hfz131_2 hfz131_3
            try clear hfz137_0 hfz137_1 hfz137_2 hfz137_3
            try clear hfz139_0 hfz139_1 hfz139_2 hfz139_3
            try clear hfz140_0 hfz140_1 hfz140_2 hfz140_3
            try clear hfz146_0 hfz146_1 hfz146_2 hfz146_3
            try clear hfz150_0 hfz150_1 hfz150_2 hfz150_3
            try clear hfz158_0 hfz158_1 hfz158_2 hfz158_3
            try clear hfz164_0 hfz164_1 hfz164_2 hfz164_3
            try clear hfz166_0 hfz166_1 hfz166_2 hfz166_3
            try clear hfz167_0 hfz167_1 hfz167_2 hfz167_3
            try clear hfz175_0 hfz175_1 hfz175_2 hfz175_3
            try clear hfz17_0 hfz17_1 hfz17_2 hfz17_3
            try clear hfz181_0 hfz181_1 hfz181_2 hfz181_3
            try clear hfz196_0 hfz196_1 hfz196_2 hfz196_3
            try clear hfz202_0 hfz202_1 hfz202_2 hfz202_3
            try clear hfz204_0 hfz204_1 hfz204_2 hfz204_3
            try clear hfz205_0 hfz205_1 hfz205_2 hfz205_3
            try clear hfz211_0 hfz211_1 hfz211_2 hfz211_3
            try clear hfz215_0 hfz215_1 hfz215_2 hfz215_3
            try clear hfz217_0 hfz217_1 hfz217_2 hfz217_3
            try clear hfz218_0 hfz218_1 hfz218_2 hfz218_3
            try clear hfz226_0 hfz226_1 hfz226_2 hfz226_3
            try clear hfz22_0 hfz22_1 hfz22_2 hfz22_3
            try clear hfz232_0 hfz232_1 hfz232_2 hfz232_3
            try clear hfz234_0 hfz234_1 hfz234_2 hfz234_3
            try clear hfz235_0 hfz235_1 hfz235_2 hfz235_3
            try clear hfz23_0 hfz23_1 hfz23_2 hfz23_3
            try clear hfz241_0 hfz241_1 hfz241_2 hfz241_3
            try clear hfz245_0 hfz245_1 hfz245_2 hfz245_3
            try clear hfz253_0 hfz253_1 hfz253_2 hfz253_3
            try clear hfz259_0 hfz259_1 hfz259_2 hfz259_3
            try clear hfz261_0 hfz261_1 hfz261_2 hfz261_3
            try clear hfz262_0 hfz262_1 hfz262_2 hfz262_3
            try clear hfz270_0 hfz270_1 hfz270_2 hfz270_3
            try clear hfz276_0 hfz276_1 hfz276_2 hfz276_3
            try clear hfz30_0 hfz30_1 hfz30_2 hfz30_3
            try clear hfz31_0 hfz31_1 hfz31_2 hfz31_3
            try clear hfz39_0 hfz39_1 hfz39_2 hfz39_3
            try clear hfz40_0 hfz40_1 hfz40_2 hfz40_3
            try clear hfz49_0 hfz49_1 hfz49_2 hfz49_3
            try clear hfz60_0 hfz60_1 hfz60_2 hfz60_3
            try clear hfz66_0 hfz66_1 hfz66_2 hfz66_3
            try clear hfz73_0 hfz73_1 hfz73_2 hfz73_3
            try clear hfz79_0 hfz79_1 hfz79_2 hfz79_3
            try clear hfz84_0 hfz84_1 hfz84_2 hfz84_3
            obtain ⟨kq, x105_85, rfl, HA, HJ85, BK513, BK514, BK516, BK517, BK523, BK529, BK535, HB⟩ := hcut
            cases kq with
            | zero => (have HA2 := HA.out; clear HA; revert HA2; rw [refrainlaw1_ValueLogic.j1_zero]; intro h_; cases h_)
            | succ kj85 =>
              have H := HA.out
              clear HA
              simp only [refrainlaw1_ValueLogic.j1] at H
              by_cases c278 : x105_85 = true
              · subst c278
                have H1 : (some false) = some r := by rw [if_pos rfl] at H; exact H
                clear H
                have H := H1
                clear H1
                exact absurd ((Option.some.inj H).trans hr.out) Bool.false_ne_true
              · replace c278 := Bool.eq_false_iff.mpr c278
                subst c278
                have H1 : (refrainlaw1_ValueLogic.l0 kj85 0 a2_0 a2_1 a2_2 a2_3 a3_0 a3_1 a3_2 a3_3 6 7 8 11 10 9) = some r := by rw [if_neg (show ¬ (false = true) by decide)] at H; exact H
                clear H
                have H := H1
                clear H1
                have H' := Aside0.mk H
                clear H
                go_wp2_with (first | ((with_reducible refine gate_dst (N := 18) rfl ?_); refine box_event ?hg (N := 18) ?hd (cs := #[.int .i64 0, .int .i64 0, .int .i64 0, .int .i64 0, .int .i64 0, .int .i64 0]) (t := 48) ?hr ?_; (case hd => rfl); (case hg => rfl); (case hr => first | (go_simp; done) | (go_simp; rfl)); intro gb544 hg w279 hbox hb; have BK544 := Aside0.mk hbox; have GW544 := geA hg HB; have GE544 := geA hg HB; have NB513_544 := neA hg BK513; have NB544_513 := neB hg BK513; have NB514_544 := neA hg BK514; have NB544_514 := neB hg BK514; have NB516_544 := neA hg BK516; have NB544_516 := neB hg BK516; have NB517_544 := neA hg BK517; have NB544_517 := neB hg BK517; have NB523_544 := neA hg BK523; have NB544_523 := neB hg BK523; have NB529_544 := neA hg BK529; have NB544_529 := neB hg BK529; have NB535_544 := neA hg BK535; have NB544_535 := neB hg BK535; replace BK513 := bbA BK513 hb; replace BK514 := bbA BK514 hb; replace BK516 := bbA BK516 hb; replace BK517 := bbA BK517 hb; replace BK523 := bbA BK523 hb; replace BK529 := bbA BK529 hb; replace BK535 := bbA BK535 hb; replace HB := bsA HB hb; clear hb hbox hg; have hnb280 := NB544_513.out; have hnc280 := NB513_544.out; have hnb281 := NB544_514.out; have hnc281 := NB514_544.out; have hnb282 := NB544_516.out; have hnc282 := NB516_544.out; have hnb283 := NB544_517.out; have hnc283 := NB517_544.out; have hnb284 := NB544_523.out; have hnc284 := NB523_544.out; have hnb285 := NB544_529.out; have hnc285 := NB529_544.out; have hnb286 := NB544_535.out; have hnc286 := NB535_544.out; have hcz287_0 : w279.cell? ⟨gb544, 0, none⟩ = some (.int .i64 0) := (blk_cell BK544.out 0).trans rfl; have hcz287_1 : w279.cell? ⟨gb544, 1, none⟩ = some (.int .i64 0) := (blk_cell BK544.out 1).trans rfl; have hcz287_2 : w279.cell? ⟨gb544, 2, none⟩ = some (.int .i64 0) := (blk_cell BK544.out 2).trans rfl; have hcz287_3 : w279.cell? ⟨gb544, 3, none⟩ = some (.int .i64 0) := (blk_cell BK544.out 3).trans rfl; have hcz287_4 : w279.cell? ⟨gb544, 4, none⟩ = some (.int .i64 0) := (blk_cell BK544.out 4).trans rfl; have hcz287_5 : w279.cell? ⟨gb544, 5, none⟩ = some (.int .i64 0) := (blk_cell BK544.out 5).trans rfl; have hfz287_0 := blk_frozen BK544.out 0; have hfz287_1 := blk_frozen BK544.out 1; have hfz287_2 := blk_frozen BK544.out 2; have hfz287_3 := blk_frozen BK544.out 3; have hfz287_4 := blk_frozen BK544.out 4; have hfz287_5 := blk_frozen BK544.out 5))
                go_loopg [19] kj85 (fun kq v19 w' => ∃ (x19_3 : Int), v19 = .int .i64 x19_3 ∧ Aside0 (refrainlaw1_ValueLogic.l0 kq x19_3 a2_0 a2_1 a2_2 a2_3 a3_0 a3_1 a3_2 a3_3 6 7 8 11 10 9 = some r) ∧ Aside0 (kq ≤ kj85) ∧ Aside0 (w'.heap[gb513]? = some (.cells #[.int .i64 a2_0, .int .i64 a2_1, .string a2_2, .bool a2_3] 26 (0, 0))) ∧ Aside0 (w'.heap[gb514]? = some (.cells #[.int .i64 a3_0, .int .i64 a3_1, .string a3_2, .bool a3_3] 26 (0, 0))) ∧ Aside0 (w'.heap[gb516]? = some (.cells #[.int .i64 3, .int .i64 0, .string (⟨#[]⟩ : ByteArray), .bool a0] 26 (0, 0))) ∧ Aside0 (w'.heap[gb517]? = some (.cells #[.int .i64 3, .int .i64 0, .string (⟨#[]⟩ : ByteArray), .bool a1] 26 (0, 0))) ∧ Aside0 (w'.heap[gb523]? = some (.cells #[.int .i64 t518, .int .i64 t519, .string t520, .bool t521] 26 (0, 0))) ∧ Aside0 (w'.heap[gb529]? = some (.cells #[.int .i64 t524, .int .i64 t525, .string t526, .bool t527] 26 (0, 0))) ∧ Aside0 (w'.heap[gb535]? = some (.cells #[.int .i64 t530, .int .i64 t531, .string t532, .bool t533] 26 (0, 0))) ∧ Aside0 (w'.heap[gb544]? = some (.cells #[.int .i64 6, .int .i64 7, .int .i64 8, .int .i64 11, .int .i64 10, .int .i64 9] 48 (0, 0))) ∧ Aside0 (Below w.heap.size w w'))
                case atStart => exact ⟨(0), (by first | rfl | (simp; done) | (simp [*]; done) | (simp; unfold wrap64; omega) | (congr 1; (try rw [Bool.eq_iff_iff]); simp [List.isEmpty_iff]; done)), H', ⟨Nat.le_refl _⟩, ⟨bfT2 NB513_544.out BK513.out⟩, ⟨bfT2 NB514_544.out BK514.out⟩, ⟨bfT2 NB516_544.out BK516.out⟩, ⟨bfT2 NB517_544.out BK517.out⟩, ⟨bfT2 NB523_544.out BK523.out⟩, ⟨bfT2 NB529_544.out BK529.out⟩, ⟨bfT2 NB535_544.out BK535.out⟩, ⟨by (with_reducible repeat (first | refine blk_drewN ?_ _ | refine blk_drew ?_ | refine blk_alloc ?_ _)); refine blk_put (cs := #[.int .i64 6, .int .i64 7, .int .i64 8, .int .i64 11, .int .i64 10, .int .i64 0]) ?_ 5 _ rfl; (with_reducible repeat (first | refine blk_drewN ?_ _ | refine blk_drew ?_ | refine blk_alloc ?_ _)); refine blk_put (cs := #[.int .i64 6, .int .i64 7, .int .i64 8, .int .i64 11, .int .i64 0, .int .i64 0]) ?_ 4 _ rfl; (with_reducible repeat (first | refine blk_drewN ?_ _ | refine blk_drew ?_ | refine blk_alloc ?_ _)); refine blk_put (cs := #[.int .i64 6, .int .i64 7, .int .i64 8, .int .i64 0, .int .i64 0, .int .i64 0]) ?_ 3 _ rfl; (with_reducible repeat (first | refine blk_drewN ?_ _ | refine blk_drew ?_ | refine blk_alloc ?_ _)); refine blk_put (cs := #[.int .i64 6, .int .i64 7, .int .i64 0, .int .i64 0, .int .i64 0, .int .i64 0]) ?_ 2 _ rfl; (with_reducible repeat (first | refine blk_drewN ?_ _ | refine blk_drew ?_ | refine blk_alloc ?_ _)); refine blk_put (cs := #[.int .i64 6, .int .i64 0, .int .i64 0, .int .i64 0, .int .i64 0, .int .i64 0]) ?_ 1 _ rfl; (with_reducible repeat (first | refine blk_drewN ?_ _ | refine blk_drew ?_ | refine blk_alloc ?_ _)); refine blk_put (cs := #[.int .i64 0, .int .i64 0, .int .i64 0, .int .i64 0, .int .i64 0, .int .i64 0]) ?_ 0 _ rfl; (with_reducible repeat (first | refine blk_drewN ?_ _ | refine blk_drew ?_ | refine blk_alloc ?_ _)); exact BK544.out⟩, ⟨hbT HB.out⟩⟩
                case round =>
                  clear H'
                  try clear c1
                  try clear c2
                  try clear p2
                  try clear c8
                  try clear c9
                  try clear c10
                  try clear c11
                  try clear c12
                  try clear c13
                  try clear c14
                  try clear c15
                  try clear c16
                  try clear c17
                  try clear c18
                  try clear c19
                  try clear c20
                  try clear c21
                  try clear c22
                  try clear c23
                  try clear c24
                  try clear c25
                  try clear c26
                  try clear c27
                  try clear c28
                  try clear c85
                  try clear c87
                  try clear c89
                  try clear c91
                  try clear c93
                  try clear c95
                  try clear c96
                  try clear c97
                  try clear c98
                  try clear c99
                  try clear c100
                  try clear c102
                  try clear c103
                  try clear c104
                  try clear c105
                  try clear c106
                  try clear c112
                  try clear c113
                  try clear c114
                  try clear c115
                  try clear c117
                  try clear c118
                  try clear c119
                  try clear c125
                  try clear c126
                  try clear c127
                  try clear c128
                  try clear c129
                  try clear c130
                  try clear c132
                  try clear c133
                  try clear c134
                  try clear c135
                  try clear c136
                  try clear c142
                  try clear c143
                  try clear c144
                  try clear c145
                  try clear c147
                  try clear c148
                  try clear c149
                  try clear c152
                  try clear c153
                  try clear c154
                  try clear c155
                  try clear c156
                  try clear c157
                  try clear c159
                  try clear c160
                  try clear c161
                  try clear c162
                  try clear c163
                  try clear c169
                  try clear c170
                  try clear c171
                  try clear c172
                  try clear c173
                  try clear c174
                  try clear c176
                  try clear c177
                  try clear c178
                  try clear c179
                  try clear c180
                  try clear c184
                  try clear c186
                  try clear c188
                  try clear c190
                  try clear c191
                  try clear c192
                  try clear c193
                  try clear c194
                  try clear c195
                  try clear c197
                  try clear c198
                  try clear c199
                  try clear c200
                  try clear c201
                  try clear c207
                  try clear c208
                  try clear c209
                  try clear c210
                  try clear c212
                  try clear c213
                  try clear c214
                  try clear c220
                  try clear c221
                  try clear c222
                  try clear c223
                  try clear c224
                  try clear c225
                  try clear c227
                  try clear c228
                  try clear c229
                  try clear c230
                  try clear c231
                  try clear c237
                  try clear c238
                  try clear c239
                  try clear c240
                  try clear c242
                  try clear c243
                  try clear c244
                  try clear c247
                  try clear c248
                  try clear c249
                  try clear c250
                  try clear c251
                  try clear c252
                  try clear c254
                  try clear c255
                  try clear c256
                  try clear c257
                  try clear c258
                  try clear c264
                  try clear c265
                  try clear c266
                  try clear c267
                  try clear c268
                  try clear c269
                  try clear c271
                  try clear c272
                  try clear c273
                  try clear c274
                  try clear c275
                  try clear c278
                  try clear c280
                  try clear c281
                  try clear c282
                  try clear c283
                  try clear c284
                  try clear c285
                  try clear c286
                  try clear hcz101_0 hcz101_1 hcz101_2 hcz101_3
                  try clear hcz107_0 hcz107_1 hcz107_2 hcz107_3
                  try clear hcz109_0 hcz109_1 hcz109_2 hcz109_3
                  try clear hcz110_0 hcz110_1 hcz110_2 hcz110_3
                  try clear hcz116_0 hcz116_1 hcz116_2 hcz116_3
                  try clear hcz120_0 hcz120_1 hcz120_2 hcz120_3
                  try clear hcz122_0 hcz122_1 hcz122_2 hcz122_3
                  try clear hcz123_0 hcz123_1 hcz123_2 hcz123_3
                  try clear hcz131_0 hcz131_1 hcz131_2 hcz131_3
                  try clear hcz137_0 hcz137_1 hcz137_2 hcz137_3
                  try clear hcz139_0 hcz139_1 hcz139_2 hcz139_3
                  try clear hcz140_0 hcz140_1 hcz140_2 hcz140_3
                  try clear hcz146_0 hcz146_1 hcz146_2 hcz146_3
                  try clear hcz150_0 hcz150_1 hcz150_2 hcz150_3
                  try clear hcz158_0 hcz158_1 hcz158_2 hcz158_3
                  try clear hcz164_0 hcz164_1 hcz164_2 hcz164_3
                  try clear hcz166_0 hcz166_1 hcz166_2 hcz166_3
                  try clear hcz167_0 hcz167_1 hcz167_2 hcz167_3
                  try clear hcz175_0 hcz175_1 hcz175_2 hcz175_3
                  try clear hcz181_0 hcz181_1 hcz181_2 hcz181_3
                  try clear hcz196_0 hcz196_1 hcz196_2 hcz196_3
                  try clear hcz202_0 hcz202_1 hcz202_2 hcz202_3
                  try clear hcz204_0 hcz204_1 hcz204_2 hcz204_3
                  try clear hcz205_0 hcz205_1 hcz205_2 hcz205_3
                  try clear hcz211_0 hcz211_1 hcz211_2 hcz211_3
                  try clear hcz215_0 hcz215_1 hcz215_2 hcz215_3
                  try clear hcz217_0 hcz217_1 hcz217_2 hcz217_3
                  try clear hcz218_0 hcz218_1 hcz218_2 hcz218_3
                  try clear hcz226_0 hcz226_1 hcz226_2 hcz226_3
                  try clear hcz22_0 hcz22_1 hcz22_2 hcz22_3
                  try clear hcz232_0 hcz232_1 hcz232_2 hcz232_3
                  try clear hcz234_0 hcz234_1 hcz234_2 hcz234_3
                  try clear hcz235_0 hcz235_1 hcz235_2 hcz235_3
                  try clear hcz23_0 hcz23_1 hcz23_2 hcz23_3
                  try clear hcz241_0 hcz241_1 hcz241_2 hcz241_3
                  try clear hcz245_0 hcz245_1 hcz245_2 hcz245_3
                  try clear hcz253_0 hcz253_1 hcz253_2 hcz253_3
                  try clear hcz259_0 hcz259_1 hcz259_2 hcz259_3
                  try clear hcz261_0 hcz261_1 hcz261_2 hcz261_3
                  try clear hcz262_0 hcz262_1 hcz262_2 hcz262_3
                  try clear hcz270_0 hcz270_1 hcz270_2 hcz270_3
                  try clear hcz276_0 hcz276_1 hcz276_2 hcz276_3
                  try clear hcz287_0 hcz287_1 hcz287_2 hcz287_3 hcz287_4 hcz287_5
                  try clear hcz30_0 hcz30_1 hcz30_2 hcz30_3
                  try clear hcz31_0 hcz31_1 hcz31_2 hcz31_3
                  try clear hcz39_0 hcz39_1 hcz39_2 hcz39_3
                  try clear hcz40_0 hcz40_1 hcz40_2 hcz40_3
                  try clear hcz49_0 hcz49_1 hcz49_2 hcz49_3
                  try clear hcz60_0 hcz60_1 hcz60_2 hcz60_3
                  try clear hcz66_0 hcz66_1 hcz66_2 hcz66_3
                  try clear hcz73_0 hcz73_1 hcz73_2 hcz73_3
                  try clear hcz79_0 hcz79_1 hcz79_2 hcz79_3
                  try clear hcz84_0 hcz84_1 hcz84_2 hcz84_3
                  try clear hfz101_0 hfz101_1 hfz101_2 hfz101_3
                  try clear hfz107_0 hfz107_1 hfz107_2 hfz107_3
                  try clear hfz109_0 hfz109_1 hfz109_2 hfz109_3
                  try clear hfz110_0 hfz110_1 hfz110_2 hfz110_3
                  try clear hfz116_0 hfz116_1 hfz116_2 hfz116_3
                  try clear hfz120_0 hfz120_1 hfz120_2 hfz120_3
                  try clear hfz122_0 hfz122_1 hfz122_2 hfz122_3
                  try clear hfz123_0 hfz123_1 hfz123_2 hfz123_3
                  try clear hfz131_0 hfz131_1 hfz131_2 hfz131_3
                  try clear hfz137_0 hfz137_1 hfz137_2 hfz137_3
                  try clear hfz139_0 hfz139_1 hfz139_2 hfz139_3
                  try clear hfz140_0 hfz140_1 hfz140_2 hfz140_3
                  try clear hfz146_0 hfz146_1 hfz146_2 hfz146_3
                  try clear hfz150_0 hfz150_1 hfz150_2 hfz150_3
                  try clear hfz158_0 hfz158_1 hfz158_2 hfz158_3
                  try clear hfz164_0 hfz164_1 hfz164_2 hfz164_3
                  try clear hfz166_0 hfz166_1 hfz166_2 hfz166_3
                  try clear hfz167_0 hfz167_1 hfz167_2 hfz167_3
                  try clear hfz175_0 hfz175_1 hfz175_2 hfz175_3
                  try clear hfz17_0 hfz17_1 hfz17_2 hfz17_3
                  try clear hfz181_0 hfz181_1 hfz181_2 hfz181_3
                  try clear hfz196_0 hfz196_1 hfz196_2 hfz196_3
                  try clear hfz202_0 hfz202_1 hfz202_2 hfz202_3
                  try clear hfz204_0 hfz204_1 hfz204_2 hfz204_3
                  try clear hfz205_0 hfz205_1 hfz205_2 hfz205_3
                  try clear hfz211_0 hfz211_1 hfz211_2 hfz211_3
                  try clear hfz215_0 hfz215_1 hfz215_2 hfz215_3
                  try clear hfz217_0 hfz217_1 hfz217_2 hfz217_3
                  try clear hfz218_0 hfz218_1 hfz218_2 hfz218_3
                  try clear hfz226_0 hfz226_1 hfz226_2 hfz226_3
                  try clear hfz22_0 hfz22_1 hfz22_2 hfz22_3
                  try clear hfz232_0 hfz232_1 hfz232_2 hfz232_3
                  try clear hfz234_0 hfz234_1 hfz234_2 hfz234_3
                  try clear hfz235_0 hfz235_1 hfz235_2 hfz235_3
                  try clear hfz23_0 hfz23_1 hfz23_2 hfz23_3
                  try clear hfz241_0 hfz241_1 hfz241_2 hfz241_3
                  try clear hfz245_0 hfz245_1 hfz245_2 hfz245_3
                  try clear hfz253_0 hfz253_1 hfz253_2 hfz253_3
                  try clear hfz259_0 hfz259_1 hfz259_2 hfz259_3
                  try clear hfz261_0 hfz261_1 hfz261_2 hfz261_3
                  try clear hfz262_0 hfz262_1 hfz262_2 hfz262_3
                  try clear hfz270_0 hfz270_1 hfz270_2 hfz270_3
                  try clear hfz276_0 hfz276_1 hfz276_2 hfz276_3
                  try clear hfz287_0 hfz287_1 hfz287_2 hfz287_3 hfz287_4 hfz287_5
                  try clear hfz30_0 hfz30_1 hfz30_2 hfz30_3
                  try clear hfz31_0 hfz31_1 hfz31_2 hfz31_3
                  try clear hfz39_0 hfz39_1 hfz39_2 hfz39_3
                  try clear hfz40_0 hfz40_1 hfz40_2 hfz40_3
                  try clear hfz49_0 hfz49_1 hfz49_2 hfz49_3
                  try clear hfz60_0 hfz60_1 hfz60_2 hfz60_3
                  try clear hfz66_0 hfz66_1 hfz66_2 hfz66_3
                  try clear hfz73_0 hfz73_1 hfz73_2 hfz73_3
                  try clear hfz79_0 hfz79_1 hfz79_2 hfz79_3
                  try clear hfz84_0 hfz84_1 hfz84_2 hfz84_3
                  try clear p2
                  obtain ⟨x19_3, rfl, HA, HK3, BK513, BK514, BK516, BK517, BK523, BK529, BK535, BK544, HB⟩ := hrel
                  cases gk with
                  | zero => (have HA2 := HA.out; clear HA; revert HA2; rw [refrainlaw1_ValueLogic.l0_zero]; intro h_; cases h_)
                  | succ k3 =>
                    have H := HA.out
                    clear HA
                    simp only [refrainlaw1_ValueLogic.l0] at H
                    by_cases c288 : x19_3 < 3
                    · rw [if_pos c288] at H
                      have c288b0 : decide (x19_3 < 3) = true := decide_eq_true c288
                      clear c288
                      by_cases c289 : 0 ≤ x19_3
                      · rw [if_pos c289] at H
                        have c289b0 : decide (0 ≤ x19_3) = true := decide_eq_true c289
                        clear c289
                        replace H := Option.bind_eq_some_iff.mp H
                        obtain ⟨⟨t545, t546, t547, t548, t549⟩, A2900, H⟩ := H
                        replace H : ((value_Binary.f k3 (rd ([7, 11, 9] : List Int) x19_3) a2_0 a2_1 a2_2 a2_3 a3_0 a3_1 a3_2 a3_3).bind fun bt551 => (if t549 = bt551.2.2.2.2 then (if t549 = 0 then (if (t548 == bt551.2.2.2.1) = true then (some false) else (refrainlaw1_ValueLogic.l0 k3 (wrap64 (x19_3 + 1)) a2_0 a2_1 a2_2 a2_3 a3_0 a3_1 a3_2 a3_3 6 7 8 11 10 9)) else (refrainlaw1_ValueLogic.l0 k3 (wrap64 (x19_3 + 1)) a2_0 a2_1 a2_2 a2_3 a3_0 a3_1 a3_2 a3_3 6 7 8 11 10 9)) else (some false))) = some r := H
                        have A290 := Aside0.mk A2900
                        clear A2900
                        replace H := Option.bind_eq_some_iff.mp H
                        obtain ⟨⟨t551, t552, t553, t554, t555⟩, A2910, H⟩ := H
                        replace H : (if t549 = t555 then (if t549 = 0 then (if (t548 == t554) = true then (some false) else (refrainlaw1_ValueLogic.l0 k3 (wrap64 (x19_3 + 1)) a2_0 a2_1 a2_2 a2_3 a3_0 a3_1 a3_2 a3_3 6 7 8 11 10 9)) else (refrainlaw1_ValueLogic.l0 k3 (wrap64 (x19_3 + 1)) a2_0 a2_1 a2_2 a2_3 a3_0 a3_1 a3_2 a3_3 6 7 8 11 10 9)) else (some false)) = some r := H
                        have A291 := Aside0.mk A2910
                        clear A2910
                        by_cases c292 : t549 = t555
                        · rw [if_pos c292] at H
                          have c292b0 : (t549 == t555) = true := beq_iff_eq.mpr c292
                          have c292b1 : (t549 != t555) = false := bne_eq_false_iff_eq.mpr c292
                          clear c292
                          by_cases c293 : t549 = 0
                          · rw [if_pos c293] at H
                            have c293b0 : (t549 == 0) = true := beq_iff_eq.mpr c293
                            have c293b1 : (t549 != 0) = false := bne_eq_false_iff_eq.mpr c293
                            clear c293
                            by_cases c294 : (t548 == t554) = true
                            · rw [if_pos c294] at H
                              have c294b0 : (t548 == t554) = true := c294
                              (try (have c294b1 : decide (t548 = t554) = true := by simpa using c294))
                              (try (have c294b2 : (t548 == t554) = true := by simpa using c294))
                              clear c294
                              exact absurd ((Option.some.inj H).trans hr.out) Bool.false_ne_true
                            · rw [if_neg c294] at H
                              have c294b0 : (t548 == t554) = false := by simpa using c294
                              (try (have c294b1 : decide (t548 = t554) = false := by simpa using c294))
                              (try (have c294b2 : (t548 == t554) = false := by simpa using c294))
                              (try (have c294b3 : ¬ (t548 = t554) := by simpa using c294))
                              clear c294
                              have H' := Aside0.mk H
                              clear H
                              try go_wp2
                              replace BK513 := bdA BK513; replace BK514 := bdA BK514; replace BK516 := bdA BK516; replace BK517 := bdA BK517; replace BK523 := bdA BK523; replace BK529 := bdA BK529; replace BK535 := bdA BK535; replace BK544 := bdA BK544; replace HB := Aside0.mk (below_drew1 HB.out)
                              have hpai334 : 0 ≤ (x19_3 : Int) := of_decide_eq_true (by first | (with_reducible assumption) | assumption)
                              have hqai334 : (x19_3 : Int) < 3 := of_decide_eq_true (by first | (with_reducible assumption) | assumption)
                              have hAai334 : ∀ w_ : World, w_.heap[gb544]? = some (.cells #[.int .i64 6, .int .i64 7, .int .i64 8, .int .i64 11, .int .i64 10, .int .i64 9] 48 (0, 0)) → w_.cell? ⟨gb544, (x19_3 : Int).toNat * 2, none⟩ = some (.int .i64 (rd ([6, 8, 10] : List Int) x19_3)) := fun w_ h_ => (blk_cell h_ _).trans (by obtain ⟨m_, rfl⟩ := Int.eq_ofNat_of_zero_le hpai334; exact match m_, hqai334 with | 0, _ => rfl | 1, _ => rfl | 2, _ => rfl | n_ + 3, h_ => absurd h_ (by omega))
                              replace hpai334 := eq_true hpai334
                              replace hqai334 := eq_true hqai334
                              refine start_ (n := 13) (S := fun w' => w'.cell? ⟨gb513, 0, none⟩ = some (.int .i64 a2_0) ∧ w'.cell? ⟨gb513, 1, none⟩ = some (.int .i64 a2_1) ∧ w'.cell? ⟨gb513, 2, none⟩ = some (.string a2_2) ∧ w'.cell? ⟨gb513, 3, none⟩ = some (.bool a2_3) ∧ w'.cell? ⟨gb514, 0, none⟩ = some (.int .i64 a3_0) ∧ w'.cell? ⟨gb514, 1, none⟩ = some (.int .i64 a3_1) ∧ w'.cell? ⟨gb514, 2, none⟩ = some (.string a3_2) ∧ w'.cell? ⟨gb514, 3, none⟩ = some (.bool a3_3) ∧ w'.cell? ⟨gb544, (x19_3 : Int).toNat * 2, none⟩ = some (.int .i64 (rd ([6, 8, 10] : List Int) x19_3))) (ds := []) #[false, false, false, false, false, false, false, false, false, false, false, false, false] (by kernel_rfl) rfl rfl ⟨(blk_cell BK513.out 0).trans rfl, (blk_cell BK513.out 1).trans rfl, (blk_cell BK513.out 2).trans rfl, (blk_cell BK513.out 3).trans rfl, (blk_cell BK514.out 0).trans rfl, (blk_cell BK514.out 1).trans rfl, (blk_cell BK514.out 2).trans rfl, (blk_cell BK514.out 3).trans rfl, (hAai334 _ BK544.out)⟩ (fun hHeld => ?_); refine with_tabW refrainlaw1_ValueLogic.tab17 refrainlaw1_ValueLogic.bits17 (fun HT_ HW_ => ?_)
                              generalize wr.drew = w333 at BK513 BK514 BK516 BK517 BK523 BK529 BK535 BK544 HB hHeld ⊢
                              refine pure_ (i := 0) (N := some 115) (v := ?_) (a' := ?_) #[true, false, false, false, false, false, false, false, false, false, false, false, false] rfl rfl (any_of HT_.out (by kernel_rfl)) (fun _ _ _ h => h) (Or.inl ⟨by rfl, ?_⟩) ?_ ?_
                              rotate_left; (focus (intro w'; go_simp; with_reducible rfl)); rotate_left; (focus (simp only [Act.put, List.setIfInBounds_toArray, List.set_cons_zero, List.set_cons_succ, i64_w, i32_w, IntKind.wrap_u8, IntKind.wrap_u16, IntKind.wrap_u32]; rfl))
                              refine pure_ (i := 1) (N := some 116) (v := ?_) (a' := ?_) #[true, true, false, false, false, false, false, false, false, false, false, false, false] rfl rfl (any_of HT_.out (by kernel_rfl)) (fun _ _ _ h => h) (Or.inl ⟨by rfl, ?_⟩) ?_ ?_
                              rotate_left; (focus (intro w'; go_simp; with_reducible rfl)); rotate_left; (focus (simp only [Act.put, List.setIfInBounds_toArray, List.set_cons_zero, List.set_cons_succ, i64_w, i32_w, IntKind.wrap_u8, IntKind.wrap_u16, IntKind.wrap_u32]; rfl))
                              refine pure_ (i := 2) (N := some 117) (v := ?_) (a' := ?_) #[true, true, true, false, false, false, false, false, false, false, false, false, false] rfl rfl (any_of HT_.out (by kernel_rfl)) (fun _ _ _ h => h) (Or.inl ⟨by rfl, ?_⟩) ?_ ?_
                              rotate_left; (focus (intro w'; go_simp; with_reducible rfl)); rotate_left; (focus (simp only [Act.put, List.setIfInBounds_toArray, List.set_cons_zero, List.set_cons_succ, i64_w, i32_w, IntKind.wrap_u8, IntKind.wrap_u16, IntKind.wrap_u32]; rfl))
                              refine take_ (i := 3) (N := some 118) (v := ?_) (a' := ?_) #[true, true, true, true, false, false, false, false, false, false, false, false, false] rfl rfl (take_ofW HT_.out HW_.out (by kernel_rfl)) (fun _ _ _ h => h) (Or.inl ⟨by rfl, ?_⟩) hHeld ?_ ?_
                              rotate_left; (focus (rintro w' ⟨s0, s1, s2, s3, s4, s5, s6, s7, s8⟩; go_simp; with_reducible rfl)); rotate_left; (focus (simp only [Act.put, List.setIfInBounds_toArray, List.set_cons_zero, List.set_cons_succ, i64_w, i32_w, IntKind.wrap_u8, IntKind.wrap_u16, IntKind.wrap_u32]; rfl))
                              refine take_ (i := 4) (N := some 119) (v := ?_) (a' := ?_) #[true, true, true, true, true, false, false, false, false, false, false, false, false] rfl rfl (take_ofW HT_.out HW_.out (by kernel_rfl)) (fun _ _ _ h => h) (Or.inl ⟨by rfl, ?_⟩) hHeld ?_ ?_
                              rotate_left; (focus (rintro w' ⟨s0, s1, s2, s3, s4, s5, s6, s7, s8⟩; go_simp; with_reducible rfl)); rotate_left; (focus (simp only [Act.put, List.setIfInBounds_toArray, List.set_cons_zero, List.set_cons_succ, i64_w, i32_w, IntKind.wrap_u8, IntKind.wrap_u16, IntKind.wrap_u32]; rfl))
                              refine take_ (i := 5) (N := some 120) (v := ?_) (a' := ?_) #[true, true, true, true, true, true, false, false, false, false, false, false, false] rfl rfl (take_ofW HT_.out HW_.out (by kernel_rfl)) (fun _ _ _ h => h) (Or.inl ⟨by rfl, ?_⟩) hHeld ?_ ?_
                              rotate_left; (focus (rintro w' ⟨s0, s1, s2, s3, s4, s5, s6, s7, s8⟩; go_simp; with_reducible rfl)); rotate_left; (focus (simp only [Act.put, List.setIfInBounds_toArray, List.set_cons_zero, List.set_cons_succ, i64_w, i32_w, IntKind.wrap_u8, IntKind.wrap_u16, IntKind.wrap_u32]; rfl))
                              refine join_ (σ := Nat) 2 #[true, true, true, true, true, true, true, true, true, true, true, false, false] (fun s_ => [(121, .tuple #[.agg #[.int .i64 t545, .int .i64 t546, .string t547, .bool t548], .int .i64 t549]), (20, .pointer (some ⟨s_, 0, none⟩)), (114, .tuple #[.agg #[.int .i64 t545, .int .i64 t546, .string t547, .bool t548], .int .i64 t549]), (122, .agg #[.int .i64 t545, .int .i64 t546, .string t547, .bool t548]), (123, .int .i64 t549)]) (fun s_ w' => (w'.cell? ⟨gb513, 0, none⟩ = some (.int .i64 a2_0) ∧ w'.cell? ⟨gb513, 1, none⟩ = some (.int .i64 a2_1) ∧ w'.cell? ⟨gb513, 2, none⟩ = some (.string a2_2) ∧ w'.cell? ⟨gb513, 3, none⟩ = some (.bool a2_3) ∧ w'.cell? ⟨gb514, 0, none⟩ = some (.int .i64 a3_0) ∧ w'.cell? ⟨gb514, 1, none⟩ = some (.int .i64 a3_1) ∧ w'.cell? ⟨gb514, 2, none⟩ = some (.string a3_2) ∧ w'.cell? ⟨gb514, 3, none⟩ = some (.bool a3_3) ∧ w'.cell? ⟨gb544, (x19_3 : Int).toNat * 2, none⟩ = some (.int .i64 (rd ([6, 8, 10] : List Int) x19_3))) ∧ (w'.heap[gb513]? = some (.cells #[.int .i64 a2_0, .int .i64 a2_1, .string a2_2, .bool a2_3] 26 (0, 0))) ∧ (w'.heap[gb514]? = some (.cells #[.int .i64 a3_0, .int .i64 a3_1, .string a3_2, .bool a3_3] 26 (0, 0))) ∧ (w'.heap[gb516]? = some (.cells #[.int .i64 3, .int .i64 0, .string (⟨#[]⟩ : ByteArray), .bool a0] 26 (0, 0))) ∧ (w'.heap[gb517]? = some (.cells #[.int .i64 3, .int .i64 0, .string (⟨#[]⟩ : ByteArray), .bool a1] 26 (0, 0))) ∧ (w'.heap[gb523]? = some (.cells #[.int .i64 t518, .int .i64 t519, .string t520, .bool t521] 26 (0, 0))) ∧ (w'.heap[gb529]? = some (.cells #[.int .i64 t524, .int .i64 t525, .string t526, .bool t527] 26 (0, 0))) ∧ (w'.heap[gb535]? = some (.cells #[.int .i64 t530, .int .i64 t531, .string t532, .bool t533] 26 (0, 0))) ∧ (w'.heap[gb544]? = some (.cells #[.int .i64 6, .int .i64 7, .int .i64 8, .int .i64 11, .int .i64 10, .int .i64 9] 48 (0, 0))) ∧ (w'.heap[s_]? = some (.cells #[.int .i64 0, .int .i64 0, .string (⟨#[]⟩ : ByteArray), .bool false] 26 (0, 0))) ∧ (w.heap.size ≤ s_) ∧ (w.heap.size ≤ s_) ∧ (gb513 ≠ s_) ∧ (s_ ≠ gb513) ∧ (gb514 ≠ s_) ∧ (s_ ≠ gb514) ∧ (gb516 ≠ s_) ∧ (s_ ≠ gb516) ∧ (gb517 ≠ s_) ∧ (s_ ≠ gb517) ∧ (gb523 ≠ s_) ∧ (s_ ≠ gb523) ∧ (gb529 ≠ s_) ∧ (s_ ≠ gb529) ∧ (gb535 ≠ s_) ∧ (s_ ≠ gb535) ∧ (gb544 ≠ s_) ∧ (s_ ≠ gb544) ∧ (Below w.heap.size w w')) ?_ ?_
                              rotate_left
                              · intro hCont
                                refine two_ (i := 6) (j := 10) (Ni := some 121) (Nj := some 20) #[true, true, true, true, true, true, true, false, false, false, false, false, false] #[true, true, true, true, true, true, false, false, false, false, true, false, false] rfl rfl rfl rfl (two_of HT_.out (by kernel_rfl)) (by decide) (by decide) (fun K hK => ?_) (fun K hK => ?_)
                                · skip
                                  refine goes_ Tryd.func20 (by kernel_rfl) rfl #[.int .i64 (rd ([6, 8, 10] : List Int) x19_3), .agg #[.int .i64 a2_0, .int .i64 a2_1, .string a2_2, .bool a2_3], .agg #[.int .i64 a3_0, .int .i64 a3_1, .string a3_2, .bool a3_3]] (by rfl) rfl rfl (by (try simp only [List.map_toArray, List.map_cons, List.map_nil]); first | done | rfl | (simp only [List.length_drop, List.length_take]; rfl)) ?_
                                  with_reducible refine (value_Binary.calls k3 (rd ([6, 8, 10] : List Int) x19_3) a2_0 a2_1 a2_2 a2_3 a3_0 a3_1 a3_2 a3_3 t545 t546 t547 t548 t549 _ ?side1 A290.out).mono ?_
                                  (case side1 => first | (with_reducible exact HL_LG0) | exact ⟨LG0.below HL_LG0.out (hbT HB.out)⟩)
                                  rintro e w335 ⟨rfl, hb⟩
                                  refine ⟨_, rfl, ?_⟩
                                  replace BK513 := bbA BK513 hb; replace BK514 := bbA BK514 hb; replace BK516 := bbA BK516 hb; replace BK517 := bbA BK517 hb; replace BK523 := bbA BK523 hb; replace BK529 := bbA BK529 hb; replace BK535 := bbA BK535 hb; replace BK544 := bbA BK544 hb; replace HB := bsA HB hb
                                  (try clear hb); (try clear hb2); (try clear hk); (try clear hi)
                                  refine hK.out _ _ ⟨(blk_cell BK513.out 0).trans rfl, (blk_cell BK513.out 1).trans rfl, (blk_cell BK513.out 2).trans rfl, (blk_cell BK513.out 3).trans rfl, (blk_cell BK514.out 0).trans rfl, (blk_cell BK514.out 1).trans rfl, (blk_cell BK514.out 2).trans rfl, (blk_cell BK514.out 3).trans rfl, (hAai334 _ BK544.out)⟩ (fun hHeld => ?_)
                                  clear hK K
                                  refine norm_ (a' := ?_) ?_ ?_
                                  rotate_left
                                  · show Act.put _ (some 121) _ = _
                                    simp only [Act.put, List.setIfInBounds_toArray, List.set_cons_zero, List.set_cons_succ, i64_w, i32_w, IntKind.wrap_u8, IntKind.wrap_u16, IntKind.wrap_u32]
                                    rfl
                                  refine pure_ (i := 7) (N := some 114) (v := ?_) (a' := ?_) #[true, true, true, true, true, true, true, true, false, false, false, false, false] rfl rfl (any_of HT_.out (by kernel_rfl)) (fun _ _ _ h => h) (Or.inl ⟨by rfl, ?_⟩) ?_ ?_
                                  rotate_left; (focus (intro w'; go_simp; with_reducible rfl)); rotate_left; (focus (simp only [Act.put, List.setIfInBounds_toArray, List.set_cons_zero, List.set_cons_succ, i64_w, i32_w, IntKind.wrap_u8, IntKind.wrap_u16, IntKind.wrap_u32]; rfl))
                                  refine pure_ (i := 8) (N := some 122) (v := ?_) (a' := ?_) #[true, true, true, true, true, true, true, true, true, false, false, false, false] rfl rfl (any_of HT_.out (by kernel_rfl)) (fun _ _ _ h => h) (Or.inl ⟨by rfl, ?_⟩) ?_ ?_
                                  rotate_left; (focus (intro w'; go_simp; with_reducible rfl)); rotate_left; (focus (simp only [Act.put, List.setIfInBounds_toArray, List.set_cons_zero, List.set_cons_succ, i64_w, i32_w, IntKind.wrap_u8, IntKind.wrap_u16, IntKind.wrap_u32]; rfl))
                                  refine pure_ (i := 9) (N := some 123) (v := ?_) (a' := ?_) #[true, true, true, true, true, true, true, true, true, true, false, false, false] rfl rfl (any_of HT_.out (by kernel_rfl)) (fun _ _ _ h => h) (Or.inl ⟨by rfl, ?_⟩) ?_ ?_
                                  rotate_left; (focus (intro w'; go_simp; with_reducible rfl)); rotate_left; (focus (simp only [Act.put, List.setIfInBounds_toArray, List.set_cons_zero, List.set_cons_succ, i64_w, i32_w, IntKind.wrap_u8, IntKind.wrap_u16, IntKind.wrap_u32]; rfl))
                                  refine one_ (i := 10) (N := some 20) #[true, true, true, true, true, true, true, true, true, true, true, false, false] rfl rfl (one_of HT_.out (by kernel_rfl)) (by decide) (fun K hK => ?_)
                                  refine box_step ?hg (N := 20) ?hd (cs := #[.int .i64 0, .int .i64 0, .string (⟨#[]⟩ : ByteArray), .bool false]) (t := 26) ?hr ?_; (case hd => rfl); (case hg => rfl); (case hr => first | (go_simp; done) | (go_simp; rfl))
                                  intro gb550 hg w336 hbox hb
                                  have BK550 := Aside0.mk hbox; have GW550 := geA hg HB; have GE550 := geA hg HB; have NB513_550 := neA hg BK513; have NB550_513 := neB hg BK513; have NB514_550 := neA hg BK514; have NB550_514 := neB hg BK514; have NB516_550 := neA hg BK516; have NB550_516 := neB hg BK516; have NB517_550 := neA hg BK517; have NB550_517 := neB hg BK517; have NB523_550 := neA hg BK523; have NB550_523 := neB hg BK523; have NB529_550 := neA hg BK529; have NB550_529 := neB hg BK529; have NB535_550 := neA hg BK535; have NB550_535 := neB hg BK535; have NB544_550 := neA hg BK544; have NB550_544 := neB hg BK544; replace BK513 := bbA BK513 hb; replace BK514 := bbA BK514 hb; replace BK516 := bbA BK516 hb; replace BK517 := bbA BK517 hb; replace BK523 := bbA BK523 hb; replace BK529 := bbA BK529 hb; replace BK535 := bbA BK535 hb; replace BK544 := bbA BK544 hb; replace HB := bsA HB hb
                                  clear hb hbox hg
                                  refine hK.out _ _ ⟨(blk_cell BK513.out 0).trans rfl, (blk_cell BK513.out 1).trans rfl, (blk_cell BK513.out 2).trans rfl, (blk_cell BK513.out 3).trans rfl, (blk_cell BK514.out 0).trans rfl, (blk_cell BK514.out 1).trans rfl, (blk_cell BK514.out 2).trans rfl, (blk_cell BK514.out 3).trans rfl, (hAai334 _ BK544.out)⟩ (fun hHeld => ?_)
                                  clear hK K
                                  refine norm_ (a' := ?_) ?_ ?_
                                  rotate_left
                                  · show Act.put _ (some 20) _ = _
                                    simp only [Act.put, List.setIfInBounds_toArray, List.set_cons_zero, List.set_cons_succ, i64_w, i32_w, IntKind.wrap_u8, IntKind.wrap_u16, IntKind.wrap_u32]
                                    rfl
                                  exact norm_ (by simp only [putAll, Act.put, List.setIfInBounds_toArray, List.set_cons_zero, List.set_cons_succ]) (hCont (gb550) _ ⟨hHeld, (bkT BK513.out), (bkT BK514.out), (bkT BK516.out), (bkT BK517.out), (bkT BK523.out), (bkT BK529.out), (bkT BK535.out), (bkT BK544.out), (bkT BK550.out), GW550.out, GE550.out, NB513_550.out, NB550_513.out, NB514_550.out, NB550_514.out, NB516_550.out, NB550_516.out, NB517_550.out, NB550_517.out, NB523_550.out, NB550_523.out, NB529_550.out, NB550_529.out, NB535_550.out, NB550_535.out, NB544_550.out, NB550_544.out, (hbT HB.out)⟩)
                                · skip
                                  refine box_step ?hg (N := 20) ?hd (cs := #[.int .i64 0, .int .i64 0, .string (⟨#[]⟩ : ByteArray), .bool false]) (t := 26) ?hr ?_; (case hd => rfl); (case hg => rfl); (case hr => first | (go_simp; done) | (go_simp; rfl))
                                  intro gb550 hg w335 hbox hb
                                  have BK550 := Aside0.mk hbox; have GW550 := geA hg HB; have GE550 := geA hg HB; have NB513_550 := neA hg BK513; have NB550_513 := neB hg BK513; have NB514_550 := neA hg BK514; have NB550_514 := neB hg BK514; have NB516_550 := neA hg BK516; have NB550_516 := neB hg BK516; have NB517_550 := neA hg BK517; have NB550_517 := neB hg BK517; have NB523_550 := neA hg BK523; have NB550_523 := neB hg BK523; have NB529_550 := neA hg BK529; have NB550_529 := neB hg BK529; have NB535_550 := neA hg BK535; have NB550_535 := neB hg BK535; have NB544_550 := neA hg BK544; have NB550_544 := neB hg BK544; replace BK513 := bbA BK513 hb; replace BK514 := bbA BK514 hb; replace BK516 := bbA BK516 hb; replace BK517 := bbA BK517 hb; replace BK523 := bbA BK523 hb; replace BK529 := bbA BK529 hb; replace BK535 := bbA BK535 hb; replace BK544 := bbA BK544 hb; replace HB := bsA HB hb
                                  clear hb hbox hg
                                  refine hK.out _ _ ⟨(blk_cell BK513.out 0).trans rfl, (blk_cell BK513.out 1).trans rfl, (blk_cell BK513.out 2).trans rfl, (blk_cell BK513.out 3).trans rfl, (blk_cell BK514.out 0).trans rfl, (blk_cell BK514.out 1).trans rfl, (blk_cell BK514.out 2).trans rfl, (blk_cell BK514.out 3).trans rfl, (hAai334 _ BK544.out)⟩ (fun hHeld => ?_)
                                  clear hK K
                                  refine norm_ (a' := ?_) ?_ ?_
                                  rotate_left
                                  · show Act.put _ (some 20) _ = _
                                    simp only [Act.put, List.setIfInBounds_toArray, List.set_cons_zero, List.set_cons_succ, i64_w, i32_w, IntKind.wrap_u8, IntKind.wrap_u16, IntKind.wrap_u32]
                                    rfl
                                  refine one_ (i := 6) (N := some 121) #[true, true, true, true, true, true, true, false, false, false, true, false, false] rfl rfl (one_of HT_.out (by kernel_rfl)) (by decide) (fun K hK => ?_)
                                  refine goes_ Tryd.func20 (by kernel_rfl) rfl #[.int .i64 (rd ([6, 8, 10] : List Int) x19_3), .agg #[.int .i64 a2_0, .int .i64 a2_1, .string a2_2, .bool a2_3], .agg #[.int .i64 a3_0, .int .i64 a3_1, .string a3_2, .bool a3_3]] (by rfl) rfl rfl (by (try simp only [List.map_toArray, List.map_cons, List.map_nil]); first | done | rfl | (simp only [List.length_drop, List.length_take]; rfl)) ?_
                                  with_reducible refine (value_Binary.calls k3 (rd ([6, 8, 10] : List Int) x19_3) a2_0 a2_1 a2_2 a2_3 a3_0 a3_1 a3_2 a3_3 t545 t546 t547 t548 t549 _ ?side1 A290.out).mono ?_
                                  (case side1 => first | (with_reducible exact HL_LG0) | exact ⟨LG0.below HL_LG0.out (hbT HB.out)⟩)
                                  rintro e w336 ⟨rfl, hb⟩
                                  refine ⟨_, rfl, ?_⟩
                                  replace BK513 := bbA BK513 hb; replace BK514 := bbA BK514 hb; replace BK516 := bbA BK516 hb; replace BK517 := bbA BK517 hb; replace BK523 := bbA BK523 hb; replace BK529 := bbA BK529 hb; replace BK535 := bbA BK535 hb; replace BK544 := bbA BK544 hb; replace BK550 := bbA BK550 hb; replace HB := bsA HB hb
                                  (try clear hb); (try clear hb2); (try clear hk); (try clear hi)
                                  refine hK.out _ _ ⟨(blk_cell BK513.out 0).trans rfl, (blk_cell BK513.out 1).trans rfl, (blk_cell BK513.out 2).trans rfl, (blk_cell BK513.out 3).trans rfl, (blk_cell BK514.out 0).trans rfl, (blk_cell BK514.out 1).trans rfl, (blk_cell BK514.out 2).trans rfl, (blk_cell BK514.out 3).trans rfl, (hAai334 _ BK544.out)⟩ (fun hHeld => ?_)
                                  clear hK K
                                  refine norm_ (a' := ?_) ?_ ?_
                                  rotate_left
                                  · show Act.put _ (some 121) _ = _
                                    simp only [Act.put, List.setIfInBounds_toArray, List.set_cons_zero, List.set_cons_succ, i64_w, i32_w, IntKind.wrap_u8, IntKind.wrap_u16, IntKind.wrap_u32]
                                    rfl
                                  refine pure_ (i := 7) (N := some 114) (v := ?_) (a' := ?_) #[true, true, true, true, true, true, true, true, false, false, true, false, false] rfl rfl (any_of HT_.out (by kernel_rfl)) (fun _ _ _ h => h) (Or.inl ⟨by rfl, ?_⟩) ?_ ?_
                                  rotate_left; (focus (intro w'; go_simp; with_reducible rfl)); rotate_left; (focus (simp only [Act.put, List.setIfInBounds_toArray, List.set_cons_zero, List.set_cons_succ, i64_w, i32_w, IntKind.wrap_u8, IntKind.wrap_u16, IntKind.wrap_u32]; rfl))
                                  refine pure_ (i := 8) (N := some 122) (v := ?_) (a' := ?_) #[true, true, true, true, true, true, true, true, true, false, true, false, false] rfl rfl (any_of HT_.out (by kernel_rfl)) (fun _ _ _ h => h) (Or.inl ⟨by rfl, ?_⟩) ?_ ?_
                                  rotate_left; (focus (intro w'; go_simp; with_reducible rfl)); rotate_left; (focus (simp only [Act.put, List.setIfInBounds_toArray, List.set_cons_zero, List.set_cons_succ, i64_w, i32_w, IntKind.wrap_u8, IntKind.wrap_u16, IntKind.wrap_u32]; rfl))
                                  refine pure_ (i := 9) (N := some 123) (v := ?_) (a' := ?_) #[true, true, true, true, true, true, true, true, true, true, true, false, false] rfl rfl (any_of HT_.out (by kernel_rfl)) (fun _ _ _ h => h) (Or.inl ⟨by rfl, ?_⟩) ?_ ?_
                                  rotate_left; (focus (intro w'; go_simp; with_reducible rfl)); rotate_left; (focus (simp only [Act.put, List.setIfInBounds_toArray, List.set_cons_zero, List.set_cons_succ, i64_w, i32_w, IntKind.wrap_u8, IntKind.wrap_u16, IntKind.wrap_u32]; rfl))
                                  exact norm_ (by simp only [putAll, Act.put, List.setIfInBounds_toArray, List.set_cons_zero, List.set_cons_succ]) (hCont (gb550) _ ⟨hHeld, (bkT BK513.out), (bkT BK514.out), (bkT BK516.out), (bkT BK517.out), (bkT BK523.out), (bkT BK529.out), (bkT BK535.out), (bkT BK544.out), (bkT BK550.out), GW550.out, GE550.out, NB513_550.out, NB550_513.out, NB514_550.out, NB550_514.out, NB516_550.out, NB550_516.out, NB517_550.out, NB550_517.out, NB523_550.out, NB550_523.out, NB529_550.out, NB550_529.out, NB535_550.out, NB550_535.out, NB544_550.out, NB550_544.out, (hbT HB.out)⟩)
                              rintro gb550 w337 ⟨hS_, h0_, h1_, h2_, h3_, h4_, h5_, h6_, h7_, h8_, h9_, h10_, h11_, h12_, h13_, h14_, h15_, h16_, h17_, h18_, h19_, h20_, h21_, h22_, h23_, h24_, h25_, h26_, h27_⟩
                              have n0_ : Aside0 (w337.heap[gb513]? = some (.cells #[.int .i64 a2_0, .int .i64 a2_1, .string a2_2, .bool a2_3] 26 (0, 0))) := ⟨h0_⟩
                              have n1_ : Aside0 (w337.heap[gb514]? = some (.cells #[.int .i64 a3_0, .int .i64 a3_1, .string a3_2, .bool a3_3] 26 (0, 0))) := ⟨h1_⟩
                              have n2_ : Aside0 (w337.heap[gb516]? = some (.cells #[.int .i64 3, .int .i64 0, .string (⟨#[]⟩ : ByteArray), .bool a0] 26 (0, 0))) := ⟨h2_⟩
                              have n3_ : Aside0 (w337.heap[gb517]? = some (.cells #[.int .i64 3, .int .i64 0, .string (⟨#[]⟩ : ByteArray), .bool a1] 26 (0, 0))) := ⟨h3_⟩
                              have n4_ : Aside0 (w337.heap[gb523]? = some (.cells #[.int .i64 t518, .int .i64 t519, .string t520, .bool t521] 26 (0, 0))) := ⟨h4_⟩
                              have n5_ : Aside0 (w337.heap[gb529]? = some (.cells #[.int .i64 t524, .int .i64 t525, .string t526, .bool t527] 26 (0, 0))) := ⟨h5_⟩
                              have n6_ : Aside0 (w337.heap[gb535]? = some (.cells #[.int .i64 t530, .int .i64 t531, .string t532, .bool t533] 26 (0, 0))) := ⟨h6_⟩
                              have n7_ : Aside0 (w337.heap[gb544]? = some (.cells #[.int .i64 6, .int .i64 7, .int .i64 8, .int .i64 11, .int .i64 10, .int .i64 9] 48 (0, 0))) := ⟨h7_⟩
                              have n8_ : Aside0 (w337.heap[gb550]? = some (.cells #[.int .i64 0, .int .i64 0, .string (⟨#[]⟩ : ByteArray), .bool false] 26 (0, 0))) := ⟨h8_⟩
                              have n9_ : Aside0 (w.heap.size ≤ gb550) := ⟨h9_⟩
                              have n10_ : Aside0 (w.heap.size ≤ gb550) := ⟨h10_⟩
                              have n11_ : Aside0 (gb513 ≠ gb550) := ⟨h11_⟩
                              have n12_ : Aside0 (gb550 ≠ gb513) := ⟨h12_⟩
                              have n13_ : Aside0 (gb514 ≠ gb550) := ⟨h13_⟩
                              have n14_ : Aside0 (gb550 ≠ gb514) := ⟨h14_⟩
                              have n15_ : Aside0 (gb516 ≠ gb550) := ⟨h15_⟩
                              have n16_ : Aside0 (gb550 ≠ gb516) := ⟨h16_⟩
                              have n17_ : Aside0 (gb517 ≠ gb550) := ⟨h17_⟩
                              have n18_ : Aside0 (gb550 ≠ gb517) := ⟨h18_⟩
                              have n19_ : Aside0 (gb523 ≠ gb550) := ⟨h19_⟩
                              have n20_ : Aside0 (gb550 ≠ gb523) := ⟨h20_⟩
                              have n21_ : Aside0 (gb529 ≠ gb550) := ⟨h21_⟩
                              have n22_ : Aside0 (gb550 ≠ gb529) := ⟨h22_⟩
                              have n23_ : Aside0 (gb535 ≠ gb550) := ⟨h23_⟩
                              have n24_ : Aside0 (gb550 ≠ gb535) := ⟨h24_⟩
                              have n25_ : Aside0 (gb544 ≠ gb550) := ⟨h25_⟩
                              have n26_ : Aside0 (gb550 ≠ gb544) := ⟨h26_⟩
                              have n27_ : Aside0 (Below w.heap.size w w337) := ⟨h27_⟩
                              clear BK513; clear BK514
                              clear BK516; clear BK517
                              clear BK523; clear BK529
                              clear BK535; clear BK544
                              clear HB
                              clear h0_ h1_ h2_ h3_ h4_ h5_ h6_ h7_ h8_ h9_ h10_ h11_ h12_ h13_ h14_ h15_ h16_ h17_ h18_ h19_ h20_ h21_ h22_ h23_ h24_ h25_ h26_ h27_
                              have BK513 := n0_
                              have BK514 := n1_
                              have BK516 := n2_
                              have BK517 := n3_
                              have BK523 := n4_
                              have BK529 := n5_
                              have BK535 := n6_
                              have BK544 := n7_
                              have BK550 := n8_
                              have GW550 := n9_
                              have GE550 := n10_
                              have NB513_550 := n11_
                              have NB550_513 := n12_
                              have NB514_550 := n13_
                              have NB550_514 := n14_
                              have NB516_550 := n15_
                              have NB550_516 := n16_
                              have NB517_550 := n17_
                              have NB550_517 := n18_
                              have NB523_550 := n19_
                              have NB550_523 := n20_
                              have NB529_550 := n21_
                              have NB550_529 := n22_
                              have NB535_550 := n23_
                              have NB550_535 := n24_
                              have NB544_550 := n25_
                              have NB550_544 := n26_
                              have HB := n27_
                              clear n0_ n1_ n2_ n3_ n4_ n5_ n6_ n7_ n8_ n9_ n10_ n11_ n12_ n13_ n14_ n15_ n16_ n17_ n18_ n19_ n20_ n21_ n22_ n23_ n24_ n25_ n26_ n27_
                              have hHeld : w337.cell? ⟨gb513, 0, none⟩ = some (.int .i64 a2_0) ∧ w337.cell? ⟨gb513, 1, none⟩ = some (.int .i64 a2_1) ∧ w337.cell? ⟨gb513, 2, none⟩ = some (.string a2_2) ∧ w337.cell? ⟨gb513, 3, none⟩ = some (.bool a2_3) ∧ w337.cell? ⟨gb514, 0, none⟩ = some (.int .i64 a3_0) ∧ w337.cell? ⟨gb514, 1, none⟩ = some (.int .i64 a3_1) ∧ w337.cell? ⟨gb514, 2, none⟩ = some (.string a3_2) ∧ w337.cell? ⟨gb514, 3, none⟩ = some (.bool a3_3) ∧ w337.cell? ⟨gb544, (x19_3 : Int).toNat * 2, none⟩ = some (.int .i64 (rd ([6, 8, 10] : List Int) x19_3)) := hS_
                              refine norm_ (a' := ?_) ?_ ?_
                              rotate_left
                              · simp only [putAll, Act.put, List.setIfInBounds_toArray, List.set_cons_zero, List.set_cons_succ]
                                rfl
                              refine one_ (i := 11) (N := none) #[true, true, true, true, true, true, true, true, true, true, true, true, false] rfl rfl (one_of HT_.out (by kernel_rfl)) (by decide) (fun K hK => ?_)
                              have hs338 : w337.cell? ⟨gb550, 0, none⟩ = some (.int .i64 0) := (blk_cell BK550.out 0).trans rfl
                              have hfs338 := blk_frozen BK550.out 0; have hns338_0 := NB513_550.out; have hns338_1 := NB514_550.out; have hns338_2 := NB516_550.out; have hns338_3 := NB517_550.out; have hns338_4 := NB523_550.out; have hns338_5 := NB529_550.out; have hns338_6 := NB535_550.out; have hns338_7 := NB544_550.out; have hms338_0 := NB550_513.out; have hms338_1 := NB550_514.out; have hms338_2 := NB550_516.out; have hms338_3 := NB550_517.out; have hms338_4 := NB550_523.out; have hms338_5 := NB550_529.out; have hms338_6 := NB550_535.out; have hms338_7 := NB550_544.out
                              have hs339 : w337.cell? ⟨gb550, 1, none⟩ = some (.int .i64 0) := (blk_cell BK550.out 1).trans rfl
                              have hfs339 := blk_frozen BK550.out 1; have hns339_0 := NB513_550.out; have hns339_1 := NB514_550.out; have hns339_2 := NB516_550.out; have hns339_3 := NB517_550.out; have hns339_4 := NB523_550.out; have hns339_5 := NB529_550.out; have hns339_6 := NB535_550.out; have hns339_7 := NB544_550.out; have hms339_0 := NB550_513.out; have hms339_1 := NB550_514.out; have hms339_2 := NB550_516.out; have hms339_3 := NB550_517.out; have hms339_4 := NB550_523.out; have hms339_5 := NB550_529.out; have hms339_6 := NB550_535.out; have hms339_7 := NB550_544.out
                              have hs340 : w337.cell? ⟨gb550, 2, none⟩ = some (.string (⟨#[]⟩ : ByteArray)) := (blk_cell BK550.out 2).trans rfl
                              have hfs340 := blk_frozen BK550.out 2; have hns340_0 := NB513_550.out; have hns340_1 := NB514_550.out; have hns340_2 := NB516_550.out; have hns340_3 := NB517_550.out; have hns340_4 := NB523_550.out; have hns340_5 := NB529_550.out; have hns340_6 := NB535_550.out; have hns340_7 := NB544_550.out; have hms340_0 := NB550_513.out; have hms340_1 := NB550_514.out; have hms340_2 := NB550_516.out; have hms340_3 := NB550_517.out; have hms340_4 := NB550_523.out; have hms340_5 := NB550_529.out; have hms340_6 := NB550_535.out; have hms340_7 := NB550_544.out
                              have hs341 : w337.cell? ⟨gb550, 3, none⟩ = some (.bool false) := (blk_cell BK550.out 3).trans rfl
                              have hfs341 := blk_frozen BK550.out 3; have hns341_0 := NB513_550.out; have hns341_1 := NB514_550.out; have hns341_2 := NB516_550.out; have hns341_3 := NB517_550.out; have hns341_4 := NB523_550.out; have hns341_5 := NB529_550.out; have hns341_6 := NB535_550.out; have hns341_7 := NB544_550.out; have hms341_0 := NB550_513.out; have hms341_1 := NB550_514.out; have hms341_2 := NB550_516.out; have hms341_3 := NB550_517.out; have hms341_4 := NB550_523.out; have hms341_5 := NB550_529.out; have hms341_6 := NB550_535.out; have hms341_7 := NB550_544.out
                              refine skip_ (w1 := ?_) (by rfl) rfl ?_ ?_
                              rotate_left
                              · go_simp
                                rfl
                              refine hK.out _ _ ⟨(cfT NB513_550.out (hHeld.1)), (cfT NB513_550.out (hHeld.2.1)), (cfT NB513_550.out (hHeld.2.2.1)), (cfT NB513_550.out (hHeld.2.2.2.1)), (cfT NB514_550.out (hHeld.2.2.2.2.1)), (cfT NB514_550.out (hHeld.2.2.2.2.2.1)), (cfT NB514_550.out (hHeld.2.2.2.2.2.2.1)), (cfT NB514_550.out (hHeld.2.2.2.2.2.2.2.1)), (cfT NB544_550.out (hHeld.2.2.2.2.2.2.2.2))⟩ (fun hHeld => ?_)
                              clear hK K
                              refine pure_ (i := 12) (N := some 21) (v := ?_) (a' := ?_) #[true, true, true, true, true, true, true, true, true, true, true, true, true] rfl rfl (any_of HT_.out (by kernel_rfl)) (fun _ _ _ h => h) (Or.inl ⟨by rfl, ?_⟩) ?_ ?_
                              rotate_left; (focus (intro w'; go_simp; with_reducible rfl)); rotate_left; (focus (simp only [Act.put, List.setIfInBounds_toArray, List.set_cons_zero, List.set_cons_succ, i64_w, i32_w, IntKind.wrap_u8, IntKind.wrap_u16, IntKind.wrap_u32]; rfl))
                              refine done_ (done_of HT_.out (by kernel_rfl)) ?_
                              try go_wp2
                              have n0_ : Aside0 (((((w337.setCell ⟨gb550, 0, none⟩ (.int .i64 t545)).setCell ⟨gb550, 1, none⟩ (.int .i64 t546)).setCell ⟨gb550, 2, none⟩ (.string t547)).setCell ⟨gb550, 3, none⟩ (.bool t548)).heap[gb513]? = some (.cells #[.int .i64 a2_0, .int .i64 a2_1, .string a2_2, .bool a2_3] 26 (0, 0))) := ⟨bfT2 NB513_550.out BK513.out⟩
                              have n1_ : Aside0 (((((w337.setCell ⟨gb550, 0, none⟩ (.int .i64 t545)).setCell ⟨gb550, 1, none⟩ (.int .i64 t546)).setCell ⟨gb550, 2, none⟩ (.string t547)).setCell ⟨gb550, 3, none⟩ (.bool t548)).heap[gb514]? = some (.cells #[.int .i64 a3_0, .int .i64 a3_1, .string a3_2, .bool a3_3] 26 (0, 0))) := ⟨bfT2 NB514_550.out BK514.out⟩
                              have n2_ : Aside0 (((((w337.setCell ⟨gb550, 0, none⟩ (.int .i64 t545)).setCell ⟨gb550, 1, none⟩ (.int .i64 t546)).setCell ⟨gb550, 2, none⟩ (.string t547)).setCell ⟨gb550, 3, none⟩ (.bool t548)).heap[gb516]? = some (.cells #[.int .i64 3, .int .i64 0, .string (⟨#[]⟩ : ByteArray), .bool a0] 26 (0, 0))) := ⟨bfT2 NB516_550.out BK516.out⟩
                              have n3_ : Aside0 (((((w337.setCell ⟨gb550, 0, none⟩ (.int .i64 t545)).setCell ⟨gb550, 1, none⟩ (.int .i64 t546)).setCell ⟨gb550, 2, none⟩ (.string t547)).setCell ⟨gb550, 3, none⟩ (.bool t548)).heap[gb517]? = some (.cells #[.int .i64 3, .int .i64 0, .string (⟨#[]⟩ : ByteArray), .bool a1] 26 (0, 0))) := ⟨bfT2 NB517_550.out BK517.out⟩
                              have n4_ : Aside0 (((((w337.setCell ⟨gb550, 0, none⟩ (.int .i64 t545)).setCell ⟨gb550, 1, none⟩ (.int .i64 t546)).setCell ⟨gb550, 2, none⟩ (.string t547)).setCell ⟨gb550, 3, none⟩ (.bool t548)).heap[gb523]? = some (.cells #[.int .i64 t518, .int .i64 t519, .string t520, .bool t521] 26 (0, 0))) := ⟨bfT2 NB523_550.out BK523.out⟩
                              have n5_ : Aside0 (((((w337.setCell ⟨gb550, 0, none⟩ (.int .i64 t545)).setCell ⟨gb550, 1, none⟩ (.int .i64 t546)).setCell ⟨gb550, 2, none⟩ (.string t547)).setCell ⟨gb550, 3, none⟩ (.bool t548)).heap[gb529]? = some (.cells #[.int .i64 t524, .int .i64 t525, .string t526, .bool t527] 26 (0, 0))) := ⟨bfT2 NB529_550.out BK529.out⟩
                              have n6_ : Aside0 (((((w337.setCell ⟨gb550, 0, none⟩ (.int .i64 t545)).setCell ⟨gb550, 1, none⟩ (.int .i64 t546)).setCell ⟨gb550, 2, none⟩ (.string t547)).setCell ⟨gb550, 3, none⟩ (.bool t548)).heap[gb535]? = some (.cells #[.int .i64 t530, .int .i64 t531, .string t532, .bool t533] 26 (0, 0))) := ⟨bfT2 NB535_550.out BK535.out⟩
                              have n7_ : Aside0 (((((w337.setCell ⟨gb550, 0, none⟩ (.int .i64 t545)).setCell ⟨gb550, 1, none⟩ (.int .i64 t546)).setCell ⟨gb550, 2, none⟩ (.string t547)).setCell ⟨gb550, 3, none⟩ (.bool t548)).heap[gb544]? = some (.cells #[.int .i64 6, .int .i64 7, .int .i64 8, .int .i64 11, .int .i64 10, .int .i64 9] 48 (0, 0))) := ⟨bfT2 NB544_550.out BK544.out⟩
                              have n8_ : Aside0 (((((w337.setCell ⟨gb550, 0, none⟩ (.int .i64 t545)).setCell ⟨gb550, 1, none⟩ (.int .i64 t546)).setCell ⟨gb550, 2, none⟩ (.string t547)).setCell ⟨gb550, 3, none⟩ (.bool t548)).heap[gb550]? = some (.cells #[.int .i64 t545, .int .i64 t546, .string t547, .bool t548] 26 (0, 0))) := ⟨by (with_reducible repeat (first | refine blk_drewN ?_ _ | refine blk_drew ?_ | refine blk_alloc ?_ _)); refine blk_put (cs := #[.int .i64 t545, .int .i64 t546, .string t547, .bool false]) ?_ 3 _ rfl; (with_reducible repeat (first | refine blk_drewN ?_ _ | refine blk_drew ?_ | refine blk_alloc ?_ _)); refine blk_put (cs := #[.int .i64 t545, .int .i64 t546, .string (⟨#[]⟩ : ByteArray), .bool false]) ?_ 2 _ rfl; (with_reducible repeat (first | refine blk_drewN ?_ _ | refine blk_drew ?_ | refine blk_alloc ?_ _)); refine blk_put (cs := #[.int .i64 t545, .int .i64 0, .string (⟨#[]⟩ : ByteArray), .bool false]) ?_ 1 _ rfl; (with_reducible repeat (first | refine blk_drewN ?_ _ | refine blk_drew ?_ | refine blk_alloc ?_ _)); refine blk_put (cs := #[.int .i64 0, .int .i64 0, .string (⟨#[]⟩ : ByteArray), .bool false]) ?_ 0 _ rfl; (with_reducible repeat (first | refine blk_drewN ?_ _ | refine blk_drew ?_ | refine blk_alloc ?_ _)); exact BK550.out⟩
                              have n9_ : Aside0 (Below w.heap.size w ((((w337.setCell ⟨gb550, 0, none⟩ (.int .i64 t545)).setCell ⟨gb550, 1, none⟩ (.int .i64 t546)).setCell ⟨gb550, 2, none⟩ (.string t547)).setCell ⟨gb550, 3, none⟩ (.bool t548))) := ⟨hbT HB.out⟩
                              (try clear BK513)
                              (try clear BK514)
                              (try clear BK516)
                              (try clear BK517)
                              (try clear BK523)
                              (try clear BK529)
                              (try clear BK535)
                              (try clear BK544)
                              (try clear BK550)
                              (try clear HB)
                              generalize ((((w337.setCell ⟨gb550, 0, none⟩ (.int .i64 t545)).setCell ⟨gb550, 1, none⟩ (.int .i64 t546)).setCell ⟨gb550, 2, none⟩ (.string t547)).setCell ⟨gb550, 3, none⟩ (.bool t548)) = w342 at n0_ n1_ n2_ n3_ n4_ n5_ n6_ n7_ n8_ n9_ ⊢
                              have BK513 := n0_
                              have BK514 := n1_
                              have BK516 := n2_
                              have BK517 := n3_
                              have BK523 := n4_
                              have BK529 := n5_
                              have BK535 := n6_
                              have BK544 := n7_
                              have BK550 := n8_
                              have HB := n9_
                              clear n0_ n1_ n2_ n3_ n4_ n5_ n6_ n7_ n8_ n9_
                              replace BK513 := bdA BK513; replace BK514 := bdA BK514; replace BK516 := bdA BK516; replace BK517 := bdA BK517; replace BK523 := bdA BK523; replace BK529 := bdA BK529; replace BK535 := bdA BK535; replace BK544 := bdA BK544; replace BK550 := bdA BK550; replace HB := Aside0.mk (below_drew1 HB.out)
                              have hpai344 : 0 ≤ (x19_3 : Int) := of_decide_eq_true (by first | (with_reducible assumption) | assumption)
                              have hqai344 : (x19_3 : Int) < 3 := of_decide_eq_true (by first | (with_reducible assumption) | assumption)
                              have hAai344 : ∀ w_ : World, w_.heap[gb544]? = some (.cells #[.int .i64 6, .int .i64 7, .int .i64 8, .int .i64 11, .int .i64 10, .int .i64 9] 48 (0, 0)) → w_.cell? ⟨gb544, (x19_3 : Int).toNat * 2 + 1, none⟩ = some (.int .i64 (rd ([7, 11, 9] : List Int) x19_3)) := fun w_ h_ => (blk_cell h_ _).trans (by obtain ⟨m_, rfl⟩ := Int.eq_ofNat_of_zero_le hpai344; exact match m_, hqai344 with | 0, _ => rfl | 1, _ => rfl | 2, _ => rfl | n_ + 3, h_ => absurd h_ (by omega))
                              replace hpai344 := eq_true hpai344
                              replace hqai344 := eq_true hqai344
                              refine start_ (n := 13) (S := fun w' => w'.cell? ⟨gb513, 0, none⟩ = some (.int .i64 a2_0) ∧ w'.cell? ⟨gb513, 1, none⟩ = some (.int .i64 a2_1) ∧ w'.cell? ⟨gb513, 2, none⟩ = some (.string a2_2) ∧ w'.cell? ⟨gb513, 3, none⟩ = some (.bool a2_3) ∧ w'.cell? ⟨gb514, 0, none⟩ = some (.int .i64 a3_0) ∧ w'.cell? ⟨gb514, 1, none⟩ = some (.int .i64 a3_1) ∧ w'.cell? ⟨gb514, 2, none⟩ = some (.string a3_2) ∧ w'.cell? ⟨gb514, 3, none⟩ = some (.bool a3_3) ∧ w'.cell? ⟨gb544, (x19_3 : Int).toNat * 2 + 1, none⟩ = some (.int .i64 (rd ([7, 11, 9] : List Int) x19_3))) (ds := []) #[false, false, false, false, false, false, false, false, false, false, false, false, false] (by kernel_rfl) rfl rfl ⟨(blk_cell BK513.out 0).trans rfl, (blk_cell BK513.out 1).trans rfl, (blk_cell BK513.out 2).trans rfl, (blk_cell BK513.out 3).trans rfl, (blk_cell BK514.out 0).trans rfl, (blk_cell BK514.out 1).trans rfl, (blk_cell BK514.out 2).trans rfl, (blk_cell BK514.out 3).trans rfl, (hAai344 _ BK544.out)⟩ (fun hHeld => ?_); refine with_tabW refrainlaw1_ValueLogic.tab18 refrainlaw1_ValueLogic.bits18 (fun HT_ HW_ => ?_)
                              generalize w342.drew = w343 at BK513 BK514 BK516 BK517 BK523 BK529 BK535 BK544 BK550 HB hHeld ⊢
                              refine pure_ (i := 0) (N := some 125) (v := ?_) (a' := ?_) #[true, false, false, false, false, false, false, false, false, false, false, false, false] rfl rfl (any_of HT_.out (by kernel_rfl)) (fun _ _ _ h => h) (Or.inl ⟨by rfl, ?_⟩) ?_ ?_
                              rotate_left; (focus (intro w'; go_simp; with_reducible rfl)); rotate_left; (focus (simp only [Act.put, List.setIfInBounds_toArray, List.set_cons_zero, List.set_cons_succ, i64_w, i32_w, IntKind.wrap_u8, IntKind.wrap_u16, IntKind.wrap_u32]; rfl))
                              refine pure_ (i := 1) (N := some 126) (v := ?_) (a' := ?_) #[true, true, false, false, false, false, false, false, false, false, false, false, false] rfl rfl (any_of HT_.out (by kernel_rfl)) (fun _ _ _ h => h) (Or.inl ⟨by rfl, ?_⟩) ?_ ?_
                              rotate_left; (focus (intro w'; go_simp; with_reducible rfl)); rotate_left; (focus (simp only [Act.put, List.setIfInBounds_toArray, List.set_cons_zero, List.set_cons_succ, i64_w, i32_w, IntKind.wrap_u8, IntKind.wrap_u16, IntKind.wrap_u32]; rfl))
                              refine pure_ (i := 2) (N := some 127) (v := ?_) (a' := ?_) #[true, true, true, false, false, false, false, false, false, false, false, false, false] rfl rfl (any_of HT_.out (by kernel_rfl)) (fun _ _ _ h => h) (Or.inl ⟨by rfl, ?_⟩) ?_ ?_
                              rotate_left; (focus (intro w'; go_simp; with_reducible rfl)); rotate_left; (focus (simp only [Act.put, List.setIfInBounds_toArray, List.set_cons_zero, List.set_cons_succ, i64_w, i32_w, IntKind.wrap_u8, IntKind.wrap_u16, IntKind.wrap_u32]; rfl))
                              refine take_ (i := 3) (N := some 128) (v := ?_) (a' := ?_) #[true, true, true, true, false, false, false, false, false, false, false, false, false] rfl rfl (take_ofW HT_.out HW_.out (by kernel_rfl)) (fun _ _ _ h => h) (Or.inl ⟨by rfl, ?_⟩) hHeld ?_ ?_
                              rotate_left; (focus (rintro w' ⟨s0, s1, s2, s3, s4, s5, s6, s7, s8⟩; go_simp; with_reducible rfl)); rotate_left; (focus (simp only [Act.put, List.setIfInBounds_toArray, List.set_cons_zero, List.set_cons_succ, i64_w, i32_w, IntKind.wrap_u8, IntKind.wrap_u16, IntKind.wrap_u32]; rfl))
                              refine take_ (i := 4) (N := some 129) (v := ?_) (a' := ?_) #[true, true, true, true, true, false, false, false, false, false, false, false, false] rfl rfl (take_ofW HT_.out HW_.out (by kernel_rfl)) (fun _ _ _ h => h) (Or.inl ⟨by rfl, ?_⟩) hHeld ?_ ?_
                              rotate_left; (focus (rintro w' ⟨s0, s1, s2, s3, s4, s5, s6, s7, s8⟩; go_simp; with_reducible rfl)); rotate_left; (focus (simp only [Act.put, List.setIfInBounds_toArray, List.set_cons_zero, List.set_cons_succ, i64_w, i32_w, IntKind.wrap_u8, IntKind.wrap_u16, IntKind.wrap_u32]; rfl))
                              refine take_ (i := 5) (N := some 130) (v := ?_) (a' := ?_) #[true, true, true, true, true, true, false, false, false, false, false, false, false] rfl rfl (take_ofW HT_.out HW_.out (by kernel_rfl)) (fun _ _ _ h => h) (Or.inl ⟨by rfl, ?_⟩) hHeld ?_ ?_
                              rotate_left; (focus (rintro w' ⟨s0, s1, s2, s3, s4, s5, s6, s7, s8⟩; go_simp; with_reducible rfl)); rotate_left; (focus (simp only [Act.put, List.setIfInBounds_toArray, List.set_cons_zero, List.set_cons_succ, i64_w, i32_w, IntKind.wrap_u8, IntKind.wrap_u16, IntKind.wrap_u32]; rfl))
                              refine join_ (σ := Nat) 2 #[true, true, true, true, true, true, true, true, true, true, true, false, false] (fun s_ => [(131, .tuple #[.agg #[.int .i64 t551, .int .i64 t552, .string t553, .bool t554], .int .i64 t555]), (22, .pointer (some ⟨s_, 0, none⟩)), (124, .tuple #[.agg #[.int .i64 t551, .int .i64 t552, .string t553, .bool t554], .int .i64 t555]), (132, .agg #[.int .i64 t551, .int .i64 t552, .string t553, .bool t554]), (133, .int .i64 t555)]) (fun s_ w' => (w'.cell? ⟨gb513, 0, none⟩ = some (.int .i64 a2_0) ∧ w'.cell? ⟨gb513, 1, none⟩ = some (.int .i64 a2_1) ∧ w'.cell? ⟨gb513, 2, none⟩ = some (.string a2_2) ∧ w'.cell? ⟨gb513, 3, none⟩ = some (.bool a2_3) ∧ w'.cell? ⟨gb514, 0, none⟩ = some (.int .i64 a3_0) ∧ w'.cell? ⟨gb514, 1, none⟩ = some (.int .i64 a3_1) ∧ w'.cell? ⟨gb514, 2, none⟩ = some (.string a3_2) ∧ w'.cell? ⟨gb514, 3, none⟩ = some (.bool a3_3) ∧ w'.cell? ⟨gb544, (x19_3 : Int).toNat * 2 + 1, none⟩ = some (.int .i64 (rd ([7, 11, 9] : List Int) x19_3))) ∧ (w'.heap[gb513]? = some (.cells #[.int .i64 a2_0, .int .i64 a2_1, .string a2_2, .bool a2_3] 26 (0, 0))) ∧ (w'.heap[gb514]? = some (.cells #[.int .i64 a3_0, .int .i64 a3_1, .string a3_2, .bool a3_3] 26 (0, 0))) ∧ (w'.heap[gb516]? = some (.cells #[.int .i64 3, .int .i64 0, .string (⟨#[]⟩ : ByteArray), .bool a0] 26 (0, 0))) ∧ (w'.heap[gb517]? = some (.cells #[.int .i64 3, .int .i64 0, .string (⟨#[]⟩ : ByteArray), .bool a1] 26 (0, 0))) ∧ (w'.heap[gb523]? = some (.cells #[.int .i64 t518, .int .i64 t519, .string t520, .bool t521] 26 (0, 0))) ∧ (w'.heap[gb529]? = some (.cells #[.int .i64 t524, .int .i64 t525, .string t526, .bool t527] 26 (0, 0))) ∧ (w'.heap[gb535]? = some (.cells #[.int .i64 t530, .int .i64 t531, .string t532, .bool t533] 26 (0, 0))) ∧ (w'.heap[gb544]? = some (.cells #[.int .i64 6, .int .i64 7, .int .i64 8, .int .i64 11, .int .i64 10, .int .i64 9] 48 (0, 0))) ∧ (w'.heap[gb550]? = some (.cells #[.int .i64 t545, .int .i64 t546, .string t547, .bool t548] 26 (0, 0))) ∧ (w'.heap[s_]? = some (.cells #[.int .i64 0, .int .i64 0, .string (⟨#[]⟩ : ByteArray), .bool false] 26 (0, 0))) ∧ (w.heap.size ≤ s_) ∧ (w.heap.size ≤ s_) ∧ (gb513 ≠ s_) ∧ (s_ ≠ gb513) ∧ (gb514 ≠ s_) ∧ (s_ ≠ gb514) ∧ (gb516 ≠ s_) ∧ (s_ ≠ gb516) ∧ (gb517 ≠ s_) ∧ (s_ ≠ gb517) ∧ (gb523 ≠ s_) ∧ (s_ ≠ gb523) ∧ (gb529 ≠ s_) ∧ (s_ ≠ gb529) ∧ (gb535 ≠ s_) ∧ (s_ ≠ gb535) ∧ (gb544 ≠ s_) ∧ (s_ ≠ gb544) ∧ (gb550 ≠ s_) ∧ (s_ ≠ gb550) ∧ (Below w.heap.size w w')) ?_ ?_
                              rotate_left
                              · intro hCont
                                refine two_ (i := 6) (j := 10) (Ni := some 131) (Nj := some 22) #[true, true, true, true, true, true, true, false, false, false, false, false, false] #[true, true, true, true, true, true, false, false, false, false, true, false, false] rfl rfl rfl rfl (two_of HT_.out (by kernel_rfl)) (by decide) (by decide) (fun K hK => ?_) (fun K hK => ?_)
                                · skip
                                  refine goes_ Tryd.func20 (by kernel_rfl) rfl #[.int .i64 (rd ([7, 11, 9] : List Int) x19_3), .agg #[.int .i64 a2_0, .int .i64 a2_1, .string a2_2, .bool a2_3], .agg #[.int .i64 a3_0, .int .i64 a3_1, .string a3_2, .bool a3_3]] (by rfl) rfl rfl (by (try simp only [List.map_toArray, List.map_cons, List.map_nil]); first | done | rfl | (simp only [List.length_drop, List.length_take]; rfl)) ?_
                                  with_reducible refine (value_Binary.calls k3 (rd ([7, 11, 9] : List Int) x19_3) a2_0 a2_1 a2_2 a2_3 a3_0 a3_1 a3_2 a3_3 t551 t552 t553 t554 t555 _ ?side1 A291.out).mono ?_
                                  (case side1 => first | (with_reducible exact HL_LG0) | exact ⟨LG0.below HL_LG0.out (hbT HB.out)⟩)
                                  rintro e w345 ⟨rfl, hb⟩
                                  refine ⟨_, rfl, ?_⟩
                                  replace BK513 := bbA BK513 hb; replace BK514 := bbA BK514 hb; replace BK516 := bbA BK516 hb; replace BK517 := bbA BK517 hb; replace BK523 := bbA BK523 hb; replace BK529 := bbA BK529 hb; replace BK535 := bbA BK535 hb; replace BK544 := bbA BK544 hb; replace BK550 := bbA BK550 hb; replace HB := bsA HB hb
                                  (try clear hb); (try clear hb2); (try clear hk); (try clear hi)
                                  refine hK.out _ _ ⟨(blk_cell BK513.out 0).trans rfl, (blk_cell BK513.out 1).trans rfl, (blk_cell BK513.out 2).trans rfl, (blk_cell BK513.out 3).trans rfl, (blk_cell BK514.out 0).trans rfl, (blk_cell BK514.out 1).trans rfl, (blk_cell BK514.out 2).trans rfl, (blk_cell BK514.out 3).trans rfl, (hAai344 _ BK544.out)⟩ (fun hHeld => ?_)
                                  clear hK K
                                  refine norm_ (a' := ?_) ?_ ?_
                                  rotate_left
                                  · show Act.put _ (some 131) _ = _
                                    simp only [Act.put, List.setIfInBounds_toArray, List.set_cons_zero, List.set_cons_succ, i64_w, i32_w, IntKind.wrap_u8, IntKind.wrap_u16, IntKind.wrap_u32]
                                    rfl
                                  refine pure_ (i := 7) (N := some 124) (v := ?_) (a' := ?_) #[true, true, true, true, true, true, true, true, false, false, false, false, false] rfl rfl (any_of HT_.out (by kernel_rfl)) (fun _ _ _ h => h) (Or.inl ⟨by rfl, ?_⟩) ?_ ?_
                                  rotate_left; (focus (intro w'; go_simp; with_reducible rfl)); rotate_left; (focus (simp only [Act.put, List.setIfInBounds_toArray, List.set_cons_zero, List.set_cons_succ, i64_w, i32_w, IntKind.wrap_u8, IntKind.wrap_u16, IntKind.wrap_u32]; rfl))
                                  refine pure_ (i := 8) (N := some 132) (v := ?_) (a' := ?_) #[true, true, true, true, true, true, true, true, true, false, false, false, false] rfl rfl (any_of HT_.out (by kernel_rfl)) (fun _ _ _ h => h) (Or.inl ⟨by rfl, ?_⟩) ?_ ?_
                                  rotate_left; (focus (intro w'; go_simp; with_reducible rfl)); rotate_left; (focus (simp only [Act.put, List.setIfInBounds_toArray, List.set_cons_zero, List.set_cons_succ, i64_w, i32_w, IntKind.wrap_u8, IntKind.wrap_u16, IntKind.wrap_u32]; rfl))
                                  refine pure_ (i := 9) (N := some 133) (v := ?_) (a' := ?_) #[true, true, true, true, true, true, true, true, true, true, false, false, false] rfl rfl (any_of HT_.out (by kernel_rfl)) (fun _ _ _ h => h) (Or.inl ⟨by rfl, ?_⟩) ?_ ?_
                                  rotate_left; (focus (intro w'; go_simp; with_reducible rfl)); rotate_left; (focus (simp only [Act.put, List.setIfInBounds_toArray, List.set_cons_zero, List.set_cons_succ, i64_w, i32_w, IntKind.wrap_u8, IntKind.wrap_u16, IntKind.wrap_u32]; rfl))
                                  refine one_ (i := 10) (N := some 22) #[true, true, true, true, true, true, true, true, true, true, true, false, false] rfl rfl (one_of HT_.out (by kernel_rfl)) (by decide) (fun K hK => ?_)
                                  refine box_step ?hg (N := 22) ?hd (cs := #[.int .i64 0, .int .i64 0, .string (⟨#[]⟩ : ByteArray), .bool false]) (t := 26) ?hr ?_; (case hd => rfl); (case hg => rfl); (case hr => first | (go_simp; done) | (go_simp; rfl))
                                  intro gb556 hg w346 hbox hb
                                  have BK556 := Aside0.mk hbox; have GW556 := geA hg HB; have GE556 := geA hg HB; have NB513_556 := neA hg BK513; have NB556_513 := neB hg BK513; have NB514_556 := neA hg BK514; have NB556_514 := neB hg BK514; have NB516_556 := neA hg BK516; have NB556_516 := neB hg BK516; have NB517_556 := neA hg BK517; have NB556_517 := neB hg BK517; have NB523_556 := neA hg BK523; have NB556_523 := neB hg BK523; have NB529_556 := neA hg BK529; have NB556_529 := neB hg BK529; have NB535_556 := neA hg BK535; have NB556_535 := neB hg BK535; have NB544_556 := neA hg BK544; have NB556_544 := neB hg BK544; have NB550_556 := neA hg BK550; have NB556_550 := neB hg BK550; replace BK513 := bbA BK513 hb; replace BK514 := bbA BK514 hb; replace BK516 := bbA BK516 hb; replace BK517 := bbA BK517 hb; replace BK523 := bbA BK523 hb; replace BK529 := bbA BK529 hb; replace BK535 := bbA BK535 hb; replace BK544 := bbA BK544 hb; replace BK550 := bbA BK550 hb; replace HB := bsA HB hb
                                  clear hb hbox hg
                                  refine hK.out _ _ ⟨(blk_cell BK513.out 0).trans rfl, (blk_cell BK513.out 1).trans rfl, (blk_cell BK513.out 2).trans rfl, (blk_cell BK513.out 3).trans rfl, (blk_cell BK514.out 0).trans rfl, (blk_cell BK514.out 1).trans rfl, (blk_cell BK514.out 2).trans rfl, (blk_cell BK514.out 3).trans rfl, (hAai344 _ BK544.out)⟩ (fun hHeld => ?_)
                                  clear hK K
                                  refine norm_ (a' := ?_) ?_ ?_
                                  rotate_left
                                  · show Act.put _ (some 22) _ = _
                                    simp only [Act.put, List.setIfInBounds_toArray, List.set_cons_zero, List.set_cons_succ, i64_w, i32_w, IntKind.wrap_u8, IntKind.wrap_u16, IntKind.wrap_u32]
                                    rfl
                                  exact norm_ (by simp only [putAll, Act.put, List.setIfInBounds_toArray, List.set_cons_zero, List.set_cons_succ]) (hCont (gb556) _ ⟨hHeld, (bkT BK513.out), (bkT BK514.out), (bkT BK516.out), (bkT BK517.out), (bkT BK523.out), (bkT BK529.out), (bkT BK535.out), (bkT BK544.out), (bkT BK550.out), (bkT BK556.out), GW556.out, GE556.out, NB513_556.out, NB556_513.out, NB514_556.out, NB556_514.out, NB516_556.out, NB556_516.out, NB517_556.out, NB556_517.out, NB523_556.out, NB556_523.out, NB529_556.out, NB556_529.out, NB535_556.out, NB556_535.out, NB544_556.out, NB556_544.out, NB550_556.out, NB556_550.out, (hbT HB.out)⟩)
                                · skip
                                  refine box_step ?hg (N := 22) ?hd (cs := #[.int .i64 0, .int .i64 0, .string (⟨#[]⟩ : ByteArray), .bool false]) (t := 26) ?hr ?_; (case hd => rfl); (case hg => rfl); (case hr => first | (go_simp; done) | (go_simp; rfl))
                                  intro gb556 hg w345 hbox hb
                                  have BK556 := Aside0.mk hbox; have GW556 := geA hg HB; have GE556 := geA hg HB; have NB513_556 := neA hg BK513; have NB556_513 := neB hg BK513; have NB514_556 := neA hg BK514; have NB556_514 := neB hg BK514; have NB516_556 := neA hg BK516; have NB556_516 := neB hg BK516; have NB517_556 := neA hg BK517; have NB556_517 := neB hg BK517; have NB523_556 := neA hg BK523; have NB556_523 := neB hg BK523; have NB529_556 := neA hg BK529; have NB556_529 := neB hg BK529; have NB535_556 := neA hg BK535; have NB556_535 := neB hg BK535; have NB544_556 := neA hg BK544; have NB556_544 := neB hg BK544; have NB550_556 := neA hg BK550; have NB556_550 := neB hg BK550; replace BK513 := bbA BK513 hb; replace BK514 := bbA BK514 hb; replace BK516 := bbA BK516 hb; replace BK517 := bbA BK517 hb; replace BK523 := bbA BK523 hb; replace BK529 := bbA BK529 hb; replace BK535 := bbA BK535 hb; replace BK544 := bbA BK544 hb; replace BK550 := bbA BK550 hb; replace HB := bsA HB hb
                                  clear hb hbox hg
                                  refine hK.out _ _ ⟨(blk_cell BK513.out 0).trans rfl, (blk_cell BK513.out 1).trans rfl, (blk_cell BK513.out 2).trans rfl, (blk_cell BK513.out 3).trans rfl, (blk_cell BK514.out 0).trans rfl, (blk_cell BK514.out 1).trans rfl, (blk_cell BK514.out 2).trans rfl, (blk_cell BK514.out 3).trans rfl, (hAai344 _ BK544.out)⟩ (fun hHeld => ?_)
                                  clear hK K
                                  refine norm_ (a' := ?_) ?_ ?_
                                  rotate_left
                                  · show Act.put _ (some 22) _ = _
                                    simp only [Act.put, List.setIfInBounds_toArray, List.set_cons_zero, List.set_cons_succ, i64_w, i32_w, IntKind.wrap_u8, IntKind.wrap_u16, IntKind.wrap_u32]
                                    rfl
                                  refine one_ (i := 6) (N := some 131) #[true, true, true, true, true, true, true, false, false, false, true, false, false] rfl rfl (one_of HT_.out (by kernel_rfl)) (by decide) (fun K hK => ?_)
                                  refine goes_ Tryd.func20 (by kernel_rfl) rfl #[.int .i64 (rd ([7, 11, 9] : List Int) x19_3), .agg #[.int .i64 a2_0, .int .i64 a2_1, .string a2_2, .bool a2_3], .agg #[.int .i64 a3_0, .int .i64 a3_1, .string a3_2, .bool a3_3]] (by rfl) rfl rfl (by (try simp only [List.map_toArray, List.map_cons, List.map_nil]); first | done | rfl | (simp only [List.length_drop, List.length_take]; rfl)) ?_
                                  with_reducible refine (value_Binary.calls k3 (rd ([7, 11, 9] : List Int) x19_3) a2_0 a2_1 a2_2 a2_3 a3_0 a3_1 a3_2 a3_3 t551 t552 t553 t554 t555 _ ?side1 A291.out).mono ?_
                                  (case side1 => first | (with_reducible exact HL_LG0) | exact ⟨LG0.below HL_LG0.out (hbT HB.out)⟩)
                                  rintro e w346 ⟨rfl, hb⟩
                                  refine ⟨_, rfl, ?_⟩
                                  replace BK513 := bbA BK513 hb; replace BK514 := bbA BK514 hb; replace BK516 := bbA BK516 hb; replace BK517 := bbA BK517 hb; replace BK523 := bbA BK523 hb; replace BK529 := bbA BK529 hb; replace BK535 := bbA BK535 hb; replace BK544 := bbA BK544 hb; replace BK550 := bbA BK550 hb; replace BK556 := bbA BK556 hb; replace HB := bsA HB hb
                                  (try clear hb); (try clear hb2); (try clear hk); (try clear hi)
                                  refine hK.out _ _ ⟨(blk_cell BK513.out 0).trans rfl, (blk_cell BK513.out 1).trans rfl, (blk_cell BK513.out 2).trans rfl, (blk_cell BK513.out 3).trans rfl, (blk_cell BK514.out 0).trans rfl, (blk_cell BK514.out 1).trans rfl, (blk_cell BK514.out 2).trans rfl, (blk_cell BK514.out 3).trans rfl, (hAai344 _ BK544.out)⟩ (fun hHeld => ?_)
                                  clear hK K
                                  refine norm_ (a' := ?_) ?_ ?_
                                  rotate_left
                                  · show Act.put _ (some 131) _ = _
                                    simp only [Act.put, List.setIfInBounds_toArray, List.set_cons_zero, List.set_cons_succ, i64_w, i32_w, IntKind.wrap_u8, IntKind.wrap_u16, IntKind.wrap_u32]
                                    rfl
                                  refine pure_ (i := 7) (N := some 124) (v := ?_) (a' := ?_) #[true, true, true, true, true, true, true, true, false, false, true, false, false] rfl rfl (any_of HT_.out (by kernel_rfl)) (fun _ _ _ h => h) (Or.inl ⟨by rfl, ?_⟩) ?_ ?_
                                  rotate_left; (focus (intro w'; go_simp; with_reducible rfl)); rotate_left; (focus (simp only [Act.put, List.setIfInBounds_toArray, List.set_cons_zero, List.set_cons_succ, i64_w, i32_w, IntKind.wrap_u8, IntKind.wrap_u16, IntKind.wrap_u32]; rfl))
                                  refine pure_ (i := 8) (N := some 132) (v := ?_) (a' := ?_) #[true, true, true, true, true, true, true, true, true, false, true, false, false] rfl rfl (any_of HT_.out (by kernel_rfl)) (fun _ _ _ h => h) (Or.inl ⟨by rfl, ?_⟩) ?_ ?_
                                  rotate_left; (focus (intro w'; go_simp; with_reducible rfl)); rotate_left; (focus (simp only [Act.put, List.setIfInBounds_toArray, List.set_cons_zero, List.set_cons_succ, i64_w, i32_w, IntKind.wrap_u8, IntKind.wrap_u16, IntKind.wrap_u32]; rfl))
                                  refine pure_ (i := 9) (N := some 133) (v := ?_) (a' := ?_) #[true, true, true, true, true, true, true, true, true, true, true, false, false] rfl rfl (any_of HT_.out (by kernel_rfl)) (fun _ _ _ h => h) (Or.inl ⟨by rfl, ?_⟩) ?_ ?_
                                  rotate_left; (focus (intro w'; go_simp; with_reducible rfl)); rotate_left; (focus (simp only [Act.put, List.setIfInBounds_toArray, List.set_cons_zero, List.set_cons_succ, i64_w, i32_w, IntKind.wrap_u8, IntKind.wrap_u16, IntKind.wrap_u32]; rfl))
                                  exact norm_ (by simp only [putAll, Act.put, List.setIfInBounds_toArray, List.set_cons_zero, List.set_cons_succ]) (hCont (gb556) _ ⟨hHeld, (bkT BK513.out), (bkT BK514.out), (bkT BK516.out), (bkT BK517.out), (bkT BK523.out), (bkT BK529.out), (bkT BK535.out), (bkT BK544.out), (bkT BK550.out), (bkT BK556.out), GW556.out, GE556.out, NB513_556.out, NB556_513.out, NB514_556.out, NB556_514.out, NB516_556.out, NB556_516.out, NB517_556.out, NB556_517.out, NB523_556.out, NB556_523.out, NB529_556.out, NB556_529.out, NB535_556.out, NB556_535.out, NB544_556.out, NB556_544.out, NB550_556.out, NB556_550.out, (hbT HB.out)⟩)
                              rintro gb556 w347 ⟨hS_, h0_, h1_, h2_, h3_, h4_, h5_, h6_, h7_, h8_, h9_, h10_, h11_, h12_, h13_, h14_, h15_, h16_, h17_, h18_, h19_, h20_, h21_, h22_, h23_, h24_, h25_, h26_, h27_, h28_, h29_, h30_⟩
                              have n0_ : Aside0 (w347.heap[gb513]? = some (.cells #[.int .i64 a2_0, .int .i64 a2_1, .string a2_2, .bool a2_3] 26 (0, 0))) := ⟨h0_⟩
                              have n1_ : Aside0 (w347.heap[gb514]? = some (.cells #[.int .i64 a3_0, .int .i64 a3_1, .string a3_2, .bool a3_3] 26 (0, 0))) := ⟨h1_⟩
                              have n2_ : Aside0 (w347.heap[gb516]? = some (.cells #[.int .i64 3, .int .i64 0, .string (⟨#[]⟩ : ByteArray), .bool a0] 26 (0, 0))) := ⟨h2_⟩
                              have n3_ : Aside0 (w347.heap[gb517]? = some (.cells #[.int .i64 3, .int .i64 0, .string (⟨#[]⟩ : ByteArray), .bool a1] 26 (0, 0))) := ⟨h3_⟩
                              have n4_ : Aside0 (w347.heap[gb523]? = some (.cells #[.int .i64 t518, .int .i64 t519, .string t520, .bool t521] 26 (0, 0))) := ⟨h4_⟩
                              have n5_ : Aside0 (w347.heap[gb529]? = some (.cells #[.int .i64 t524, .int .i64 t525, .string t526, .bool t527] 26 (0, 0))) := ⟨h5_⟩
                              have n6_ : Aside0 (w347.heap[gb535]? = some (.cells #[.int .i64 t530, .int .i64 t531, .string t532, .bool t533] 26 (0, 0))) := ⟨h6_⟩
                              have n7_ : Aside0 (w347.heap[gb544]? = some (.cells #[.int .i64 6, .int .i64 7, .int .i64 8, .int .i64 11, .int .i64 10, .int .i64 9] 48 (0, 0))) := ⟨h7_⟩
                              have n8_ : Aside0 (w347.heap[gb550]? = some (.cells #[.int .i64 t545, .int .i64 t546, .string t547, .bool t548] 26 (0, 0))) := ⟨h8_⟩
                              have n9_ : Aside0 (w347.heap[gb556]? = some (.cells #[.int .i64 0, .int .i64 0, .string (⟨#[]⟩ : ByteArray), .bool false] 26 (0, 0))) := ⟨h9_⟩
                              have n10_ : Aside0 (w.heap.size ≤ gb556) := ⟨h10_⟩
                              have n11_ : Aside0 (w.heap.size ≤ gb556) := ⟨h11_⟩
                              have n12_ : Aside0 (gb513 ≠ gb556) := ⟨h12_⟩
                              have n13_ : Aside0 (gb556 ≠ gb513) := ⟨h13_⟩
                              have n14_ : Aside0 (gb514 ≠ gb556) := ⟨h14_⟩
                              have n15_ : Aside0 (gb556 ≠ gb514) := ⟨h15_⟩
                              have n16_ : Aside0 (gb516 ≠ gb556) := ⟨h16_⟩
                              have n17_ : Aside0 (gb556 ≠ gb516) := ⟨h17_⟩
                              have n18_ : Aside0 (gb517 ≠ gb556) := ⟨h18_⟩
                              have n19_ : Aside0 (gb556 ≠ gb517) := ⟨h19_⟩
                              have n20_ : Aside0 (gb523 ≠ gb556) := ⟨h20_⟩
                              have n21_ : Aside0 (gb556 ≠ gb523) := ⟨h21_⟩
                              have n22_ : Aside0 (gb529 ≠ gb556) := ⟨h22_⟩
                              have n23_ : Aside0 (gb556 ≠ gb529) := ⟨h23_⟩
                              have n24_ : Aside0 (gb535 ≠ gb556) := ⟨h24_⟩
                              have n25_ : Aside0 (gb556 ≠ gb535) := ⟨h25_⟩
                              have n26_ : Aside0 (gb544 ≠ gb556) := ⟨h26_⟩
                              have n27_ : Aside0 (gb556 ≠ gb544) := ⟨h27_⟩
                              have n28_ : Aside0 (gb550 ≠ gb556) := ⟨h28_⟩
                              have n29_ : Aside0 (gb556 ≠ gb550) := ⟨h29_⟩
                              have n30_ : Aside0 (Below w.heap.size w w347) := ⟨h30_⟩
                              clear BK513; clear BK514
                              clear BK516; clear BK517
                              clear BK523; clear BK529
                              clear BK535; clear BK544
                              clear BK550; clear HB
                              clear h0_ h1_ h2_ h3_ h4_ h5_ h6_ h7_ h8_ h9_ h10_ h11_ h12_ h13_ h14_ h15_ h16_ h17_ h18_ h19_ h20_ h21_ h22_ h23_ h24_ h25_ h26_ h27_ h28_ h29_ h30_
                              have BK513 := n0_
                              have BK514 := n1_
                              have BK516 := n2_
                              have BK517 := n3_
                              have BK523 := n4_
                              have BK529 := n5_
                              have BK535 := n6_
                              have BK544 := n7_
                              have BK550 := n8_
                              have BK556 := n9_
                              have GW556 := n10_
                              have GE556 := n11_
                              have NB513_556 := n12_
                              have NB556_513 := n13_
                              have NB514_556 := n14_
                              have NB556_514 := n15_
                              have NB516_556 := n16_
                              have NB556_516 := n17_
                              have NB517_556 := n18_
                              have NB556_517 := n19_
                              have NB523_556 := n20_
                              have NB556_523 := n21_
                              have NB529_556 := n22_
                              have NB556_529 := n23_
                              have NB535_556 := n24_
                              have NB556_535 := n25_
                              have NB544_556 := n26_
                              have NB556_544 := n27_
                              have NB550_556 := n28_
                              have NB556_550 := n29_
                              have HB := n30_
                              clear n0_ n1_ n2_ n3_ n4_ n5_ n6_ n7_ n8_ n9_ n10_ n11_ n12_ n13_ n14_ n15_ n16_ n17_ n18_ n19_ n20_ n21_ n22_ n23_ n24_ n25_ n26_ n27_ n28_ n29_ n30_
                              have hHeld : w347.cell? ⟨gb513, 0, none⟩ = some (.int .i64 a2_0) ∧ w347.cell? ⟨gb513, 1, none⟩ = some (.int .i64 a2_1) ∧ w347.cell? ⟨gb513, 2, none⟩ = some (.string a2_2) ∧ w347.cell? ⟨gb513, 3, none⟩ = some (.bool a2_3) ∧ w347.cell? ⟨gb514, 0, none⟩ = some (.int .i64 a3_0) ∧ w347.cell? ⟨gb514, 1, none⟩ = some (.int .i64 a3_1) ∧ w347.cell? ⟨gb514, 2, none⟩ = some (.string a3_2) ∧ w347.cell? ⟨gb514, 3, none⟩ = some (.bool a3_3) ∧ w347.cell? ⟨gb544, (x19_3 : Int).toNat * 2 + 1, none⟩ = some (.int .i64 (rd ([7, 11, 9] : List Int) x19_3)) := hS_
                              refine norm_ (a' := ?_) ?_ ?_
                              rotate_left
                              · simp only [putAll, Act.put, List.setIfInBounds_toArray, List.set_cons_zero, List.set_cons_succ]
                                rfl
                              refine one_ (i := 11) (N := none) #[true, true, true, true, true, true, true, true, true, true, true, true, false] rfl rfl (one_of HT_.out (by kernel_rfl)) (by decide) (fun K hK => ?_)
                              have hs348 : w347.cell? ⟨gb556, 0, none⟩ = some (.int .i64 0) := (blk_cell BK556.out 0).trans rfl
                              have hfs348 := blk_frozen BK556.out 0; have hns348_0 := NB513_556.out; have hns348_1 := NB514_556.out; have hns348_2 := NB516_556.out; have hns348_3 := NB517_556.out; have hns348_4 := NB523_556.out; have hns348_5 := NB529_556.out; have hns348_6 := NB535_556.out; have hns348_7 := NB544_556.out; have hns348_8 := NB550_556.out; have hms348_0 := NB556_513.out; have hms348_1 := NB556_514.out; have hms348_2 := NB556_516.out; have hms348_3 := NB556_517.out; have hms348_4 := NB556_523.out; have hms348_5 := NB556_529.out; have hms348_6 := NB556_535.out; have hms348_7 := NB556_544.out; have hms348_8 := NB556_550.out
                              have hs349 : w347.cell? ⟨gb556, 1, none⟩ = some (.int .i64 0) := (blk_cell BK556.out 1).trans rfl
                              have hfs349 := blk_frozen BK556.out 1; have hns349_0 := NB513_556.out; have hns349_1 := NB514_556.out; have hns349_2 := NB516_556.out; have hns349_3 := NB517_556.out; have hns349_4 := NB523_556.out; have hns349_5 := NB529_556.out; have hns349_6 := NB535_556.out; have hns349_7 := NB544_556.out; have hns349_8 := NB550_556.out; have hms349_0 := NB556_513.out; have hms349_1 := NB556_514.out; have hms349_2 := NB556_516.out; have hms349_3 := NB556_517.out; have hms349_4 := NB556_523.out; have hms349_5 := NB556_529.out; have hms349_6 := NB556_535.out; have hms349_7 := NB556_544.out; have hms349_8 := NB556_550.out
                              have hs350 : w347.cell? ⟨gb556, 2, none⟩ = some (.string (⟨#[]⟩ : ByteArray)) := (blk_cell BK556.out 2).trans rfl
                              have hfs350 := blk_frozen BK556.out 2; have hns350_0 := NB513_556.out; have hns350_1 := NB514_556.out; have hns350_2 := NB516_556.out; have hns350_3 := NB517_556.out; have hns350_4 := NB523_556.out; have hns350_5 := NB529_556.out; have hns350_6 := NB535_556.out; have hns350_7 := NB544_556.out; have hns350_8 := NB550_556.out; have hms350_0 := NB556_513.out; have hms350_1 := NB556_514.out; have hms350_2 := NB556_516.out; have hms350_3 := NB556_517.out; have hms350_4 := NB556_523.out; have hms350_5 := NB556_529.out; have hms350_6 := NB556_535.out; have hms350_7 := NB556_544.out; have hms350_8 := NB556_550.out
                              have hs351 : w347.cell? ⟨gb556, 3, none⟩ = some (.bool false) := (blk_cell BK556.out 3).trans rfl
                              have hfs351 := blk_frozen BK556.out 3; have hns351_0 := NB513_556.out; have hns351_1 := NB514_556.out; have hns351_2 := NB516_556.out; have hns351_3 := NB517_556.out; have hns351_4 := NB523_556.out; have hns351_5 := NB529_556.out; have hns351_6 := NB535_556.out; have hns351_7 := NB544_556.out; have hns351_8 := NB550_556.out; have hms351_0 := NB556_513.out; have hms351_1 := NB556_514.out; have hms351_2 := NB556_516.out; have hms351_3 := NB556_517.out; have hms351_4 := NB556_523.out; have hms351_5 := NB556_529.out; have hms351_6 := NB556_535.out; have hms351_7 := NB556_544.out; have hms351_8 := NB556_550.out
                              refine skip_ (w1 := ?_) (by rfl) rfl ?_ ?_
                              rotate_left
                              · go_simp
                                rfl
                              refine hK.out _ _ ⟨(cfT NB513_556.out (hHeld.1)), (cfT NB513_556.out (hHeld.2.1)), (cfT NB513_556.out (hHeld.2.2.1)), (cfT NB513_556.out (hHeld.2.2.2.1)), (cfT NB514_556.out (hHeld.2.2.2.2.1)), (cfT NB514_556.out (hHeld.2.2.2.2.2.1)), (cfT NB514_556.out (hHeld.2.2.2.2.2.2.1)), (cfT NB514_556.out (hHeld.2.2.2.2.2.2.2.1)), (cfT NB544_556.out (hHeld.2.2.2.2.2.2.2.2))⟩ (fun hHeld => ?_)
                              clear hK K
                              refine pure_ (i := 12) (N := some 23) (v := ?_) (a' := ?_) #[true, true, true, true, true, true, true, true, true, true, true, true, true] rfl rfl (any_of HT_.out (by kernel_rfl)) (fun _ _ _ h => h) (Or.inl ⟨by rfl, ?_⟩) ?_ ?_
                              rotate_left; (focus (intro w'; go_simp; with_reducible rfl)); rotate_left; (focus (simp only [Act.put, List.setIfInBounds_toArray, List.set_cons_zero, List.set_cons_succ, i64_w, i32_w, IntKind.wrap_u8, IntKind.wrap_u16, IntKind.wrap_u32]; rfl))
                              refine done_ (done_of HT_.out (by kernel_rfl)) ?_
                              have hnb352 := NB550_513.out; have hnc352 := NB513_550.out; have hnb353 := NB550_514.out; have hnc353 := NB514_550.out; have hnb354 := NB550_516.out; have hnc354 := NB516_550.out; have hnb355 := NB550_517.out; have hnc355 := NB517_550.out; have hnb356 := NB550_523.out; have hnc356 := NB523_550.out; have hnb357 := NB550_529.out; have hnc357 := NB529_550.out; have hnb358 := NB550_535.out; have hnc358 := NB535_550.out; have hnb359 := NB550_544.out; have hnc359 := NB544_550.out; have hnb360 := NB550_556.out; have hnc360 := NB556_550.out; have hcz361_0 : w347.cell? ⟨gb550, 0, none⟩ = some (.int .i64 t545) := (blk_cell BK550.out 0).trans rfl; have hcz361_1 : w347.cell? ⟨gb550, 1, none⟩ = some (.int .i64 t546) := (blk_cell BK550.out 1).trans rfl; have hcz361_2 : w347.cell? ⟨gb550, 2, none⟩ = some (.string t547) := (blk_cell BK550.out 2).trans rfl; have hcz361_3 : w347.cell? ⟨gb550, 3, none⟩ = some (.bool t548) := (blk_cell BK550.out 3).trans rfl; have hfz361_0 := blk_frozen BK550.out 0; have hfz361_1 := blk_frozen BK550.out 1; have hfz361_2 := blk_frozen BK550.out 2; have hfz361_3 := blk_frozen BK550.out 3; have hnb362 := NB556_513.out; have hnc362 := NB513_556.out; have hnb363 := NB556_514.out; have hnc363 := NB514_556.out; have hnb364 := NB556_516.out; have hnc364 := NB516_556.out; have hnb365 := NB556_517.out; have hnc365 := NB517_556.out; have hnb366 := NB556_523.out; have hnc366 := NB523_556.out; have hnb367 := NB556_529.out; have hnc367 := NB529_556.out; have hnb368 := NB556_535.out; have hnc368 := NB535_556.out; have hnb369 := NB556_544.out; have hnc369 := NB544_556.out; have hcz370_0 : w347.cell? ⟨gb556, 0, none⟩ = some (.int .i64 0) := (blk_cell BK556.out 0).trans rfl; have hcz370_1 : w347.cell? ⟨gb556, 1, none⟩ = some (.int .i64 0) := (blk_cell BK556.out 1).trans rfl; have hcz370_2 : w347.cell? ⟨gb556, 2, none⟩ = some (.string (⟨#[]⟩ : ByteArray)) := (blk_cell BK556.out 2).trans rfl; have hcz370_3 : w347.cell? ⟨gb556, 3, none⟩ = some (.bool false) := (blk_cell BK556.out 3).trans rfl; have hfz370_0 := blk_frozen BK556.out 0; have hfz370_1 := blk_frozen BK556.out 1; have hfz370_2 := blk_frozen BK556.out 2; have hfz370_3 := blk_frozen BK556.out 3
                              try go_wp2
                              go_roundg k3
                              case measure => have := HJ9.out; have := HJ85.out; have := HK3.out; omega
                              case rel => exact ⟨(wrap64 (x19_3 + 1)), (by first | rfl | (simp; done) | (simp [*]; done) | (simp; unfold wrap64; omega) | (congr 1; (try rw [Bool.eq_iff_iff]); simp [List.isEmpty_iff]; done)), H', ⟨by have := HJ9.out; have := HJ85.out; have := HK3.out; omega⟩, ⟨bfT2 NB513_556.out BK513.out⟩, ⟨bfT2 NB514_556.out BK514.out⟩, ⟨bfT2 NB516_556.out BK516.out⟩, ⟨bfT2 NB517_556.out BK517.out⟩, ⟨bfT2 NB523_556.out BK523.out⟩, ⟨bfT2 NB529_556.out BK529.out⟩, ⟨bfT2 NB535_556.out BK535.out⟩, ⟨bfT2 NB544_556.out BK544.out⟩, ⟨hbT HB.out⟩⟩
                          · rw [if_neg c293] at H
                            have c293b0 : (t549 == 0) = false := beq_eq_false_iff_ne.mpr c293
                            have c293b1 : (t549 != 0) = true := bne_iff_ne.mpr c293
                            have H' := Aside0.mk H
                            clear H
                            try go_wp2
                            replace BK513 := bdA BK513; replace BK514 := bdA BK514; replace BK516 := bdA BK516; replace BK517 := bdA BK517; replace BK523 := bdA BK523; replace BK529 := bdA BK529; replace BK535 := bdA BK535; replace BK544 := bdA BK544; replace HB := Aside0.mk (below_drew1 HB.out)
                            have hpai372 : 0 ≤ (x19_3 : Int) := of_decide_eq_true (by first | (with_reducible assumption) | assumption)
                            have hqai372 : (x19_3 : Int) < 3 := of_decide_eq_true (by first | (with_reducible assumption) | assumption)
                            have hAai372 : ∀ w_ : World, w_.heap[gb544]? = some (.cells #[.int .i64 6, .int .i64 7, .int .i64 8, .int .i64 11, .int .i64 10, .int .i64 9] 48 (0, 0)) → w_.cell? ⟨gb544, (x19_3 : Int).toNat * 2, none⟩ = some (.int .i64 (rd ([6, 8, 10] : List Int) x19_3)) := fun w_ h_ => (blk_cell h_ _).trans (by obtain ⟨m_, rfl⟩ := Int.eq_ofNat_of_zero_le hpai372; exact match m_, hqai372 with | 0, _ => rfl | 1, _ => rfl | 2, _ => rfl | n_ + 3, h_ => absurd h_ (by omega))
                            replace hpai372 := eq_true hpai372
                            replace hqai372 := eq_true hqai372
                            refine start_ (n := 13) (S := fun w' => w'.cell? ⟨gb513, 0, none⟩ = some (.int .i64 a2_0) ∧ w'.cell? ⟨gb513, 1, none⟩ = some (.int .i64 a2_1) ∧ w'.cell? ⟨gb513, 2, none⟩ = some (.string a2_2) ∧ w'.cell? ⟨gb513, 3, none⟩ = some (.bool a2_3) ∧ w'.cell? ⟨gb514, 0, none⟩ = some (.int .i64 a3_0) ∧ w'.cell? ⟨gb514, 1, none⟩ = some (.int .i64 a3_1) ∧ w'.cell? ⟨gb514, 2, none⟩ = some (.string a3_2) ∧ w'.cell? ⟨gb514, 3, none⟩ = some (.bool a3_3) ∧ w'.cell? ⟨gb544, (x19_3 : Int).toNat * 2, none⟩ = some (.int .i64 (rd ([6, 8, 10] : List Int) x19_3))) (ds := []) #[false, false, false, false, false, false, false, false, false, false, false, false, false] (by kernel_rfl) rfl rfl ⟨(blk_cell BK513.out 0).trans rfl, (blk_cell BK513.out 1).trans rfl, (blk_cell BK513.out 2).trans rfl, (blk_cell BK513.out 3).trans rfl, (blk_cell BK514.out 0).trans rfl, (blk_cell BK514.out 1).trans rfl, (blk_cell BK514.out 2).trans rfl, (blk_cell BK514.out 3).trans rfl, (hAai372 _ BK544.out)⟩ (fun hHeld => ?_); refine with_tabW refrainlaw1_ValueLogic.tab17 refrainlaw1_ValueLogic.bits17 (fun HT_ HW_ => ?_)
                            generalize wr.drew = w371 at BK513 BK514 BK516 BK517 BK523 BK529 BK535 BK544 HB hHeld ⊢
                            refine pure_ (i := 0) (N := some 115) (v := ?_) (a' := ?_) #[true, false, false, false, false, false, false, false, false, false, false, false, false] rfl rfl (any_of HT_.out (by kernel_rfl)) (fun _ _ _ h => h) (Or.inl ⟨by rfl, ?_⟩) ?_ ?_
                            rotate_left; (focus (intro w'; go_simp; with_reducible rfl)); rotate_left; (focus (simp only [Act.put, List.setIfInBounds_toArray, List.set_cons_zero, List.set_cons_succ, i64_w, i32_w, IntKind.wrap_u8, IntKind.wrap_u16, IntKind.wrap_u32]; rfl))
                            refine pure_ (i := 1) (N := some 116) (v := ?_) (a' := ?_) #[true, true, false, false, false, false, false, false, false, false, false, false, false] rfl rfl (any_of HT_.out (by kernel_rfl)) (fun _ _ _ h => h) (Or.inl ⟨by rfl, ?_⟩) ?_ ?_
                            rotate_left; (focus (intro w'; go_simp; with_reducible rfl)); rotate_left; (focus (simp only [Act.put, List.setIfInBounds_toArray, List.set_cons_zero, List.set_cons_succ, i64_w, i32_w, IntKind.wrap_u8, IntKind.wrap_u16, IntKind.wrap_u32]; rfl))
                            refine pure_ (i := 2) (N := some 117) (v := ?_) (a' := ?_) #[true, true, true, false, false, false, false, false, false, false, false, false, false] rfl rfl (any_of HT_.out (by kernel_rfl)) (fun _ _ _ h => h) (Or.inl ⟨by rfl, ?_⟩) ?_ ?_
                            rotate_left; (focus (intro w'; go_simp; with_reducible rfl)); rotate_left; (focus (simp only [Act.put, List.setIfInBounds_toArray, List.set_cons_zero, List.set_cons_succ, i64_w, i32_w, IntKind.wrap_u8, IntKind.wrap_u16, IntKind.wrap_u32]; rfl))
                            refine take_ (i := 3) (N := some 118) (v := ?_) (a' := ?_) #[true, true, true, true, false, false, false, false, false, false, false, false, false] rfl rfl (take_ofW HT_.out HW_.out (by kernel_rfl)) (fun _ _ _ h => h) (Or.inl ⟨by rfl, ?_⟩) hHeld ?_ ?_
                            rotate_left; (focus (rintro w' ⟨s0, s1, s2, s3, s4, s5, s6, s7, s8⟩; go_simp; with_reducible rfl)); rotate_left; (focus (simp only [Act.put, List.setIfInBounds_toArray, List.set_cons_zero, List.set_cons_succ, i64_w, i32_w, IntKind.wrap_u8, IntKind.wrap_u16, IntKind.wrap_u32]; rfl))
                            refine take_ (i := 4) (N := some 119) (v := ?_) (a' := ?_) #[true, true, true, true, true, false, false, false, false, false, false, false, false] rfl rfl (take_ofW HT_.out HW_.out (by kernel_rfl)) (fun _ _ _ h => h) (Or.inl ⟨by rfl, ?_⟩) hHeld ?_ ?_
                            rotate_left; (focus (rintro w' ⟨s0, s1, s2, s3, s4, s5, s6, s7, s8⟩; go_simp; with_reducible rfl)); rotate_left; (focus (simp only [Act.put, List.setIfInBounds_toArray, List.set_cons_zero, List.set_cons_succ, i64_w, i32_w, IntKind.wrap_u8, IntKind.wrap_u16, IntKind.wrap_u32]; rfl))
                            refine take_ (i := 5) (N := some 120) (v := ?_) (a' := ?_) #[true, true, true, true, true, true, false, false, false, false, false, false, false] rfl rfl (take_ofW HT_.out HW_.out (by kernel_rfl)) (fun _ _ _ h => h) (Or.inl ⟨by rfl, ?_⟩) hHeld ?_ ?_
                            rotate_left; (focus (rintro w' ⟨s0, s1, s2, s3, s4, s5, s6, s7, s8⟩; go_simp; with_reducible rfl)); rotate_left; (focus (simp only [Act.put, List.setIfInBounds_toArray, List.set_cons_zero, List.set_cons_succ, i64_w, i32_w, IntKind.wrap_u8, IntKind.wrap_u16, IntKind.wrap_u32]; rfl))
                            refine join_ (σ := Nat) 2 #[true, true, true, true, true, true, true, true, true, true, true, false, false] (fun s_ => [(121, .tuple #[.agg #[.int .i64 t545, .int .i64 t546, .string t547, .bool t548], .int .i64 t549]), (20, .pointer (some ⟨s_, 0, none⟩)), (114, .tuple #[.agg #[.int .i64 t545, .int .i64 t546, .string t547, .bool t548], .int .i64 t549]), (122, .agg #[.int .i64 t545, .int .i64 t546, .string t547, .bool t548]), (123, .int .i64 t549)]) (fun s_ w' => (w'.cell? ⟨gb513, 0, none⟩ = some (.int .i64 a2_0) ∧ w'.cell? ⟨gb513, 1, none⟩ = some (.int .i64 a2_1) ∧ w'.cell? ⟨gb513, 2, none⟩ = some (.string a2_2) ∧ w'.cell? ⟨gb513, 3, none⟩ = some (.bool a2_3) ∧ w'.cell? ⟨gb514, 0, none⟩ = some (.int .i64 a3_0) ∧ w'.cell? ⟨gb514, 1, none⟩ = some (.int .i64 a3_1) ∧ w'.cell? ⟨gb514, 2, none⟩ = some (.string a3_2) ∧ w'.cell? ⟨gb514, 3, none⟩ = some (.bool a3_3) ∧ w'.cell? ⟨gb544, (x19_3 : Int).toNat * 2, none⟩ = some (.int .i64 (rd ([6, 8, 10] : List Int) x19_3))) ∧ (w'.heap[gb513]? = some (.cells #[.int .i64 a2_0, .int .i64 a2_1, .string a2_2, .bool a2_3] 26 (0, 0))) ∧ (w'.heap[gb514]? = some (.cells #[.int .i64 a3_0, .int .i64 a3_1, .string a3_2, .bool a3_3] 26 (0, 0))) ∧ (w'.heap[gb516]? = some (.cells #[.int .i64 3, .int .i64 0, .string (⟨#[]⟩ : ByteArray), .bool a0] 26 (0, 0))) ∧ (w'.heap[gb517]? = some (.cells #[.int .i64 3, .int .i64 0, .string (⟨#[]⟩ : ByteArray), .bool a1] 26 (0, 0))) ∧ (w'.heap[gb523]? = some (.cells #[.int .i64 t518, .int .i64 t519, .string t520, .bool t521] 26 (0, 0))) ∧ (w'.heap[gb529]? = some (.cells #[.int .i64 t524, .int .i64 t525, .string t526, .bool t527] 26 (0, 0))) ∧ (w'.heap[gb535]? = some (.cells #[.int .i64 t530, .int .i64 t531, .string t532, .bool t533] 26 (0, 0))) ∧ (w'.heap[gb544]? = some (.cells #[.int .i64 6, .int .i64 7, .int .i64 8, .int .i64 11, .int .i64 10, .int .i64 9] 48 (0, 0))) ∧ (w'.heap[s_]? = some (.cells #[.int .i64 0, .int .i64 0, .string (⟨#[]⟩ : ByteArray), .bool false] 26 (0, 0))) ∧ (w.heap.size ≤ s_) ∧ (w.heap.size ≤ s_) ∧ (gb513 ≠ s_) ∧ (s_ ≠ gb513) ∧ (gb514 ≠ s_) ∧ (s_ ≠ gb514) ∧ (gb516 ≠ s_) ∧ (s_ ≠ gb516) ∧ (gb517 ≠ s_) ∧ (s_ ≠ gb517) ∧ (gb523 ≠ s_) ∧ (s_ ≠ gb523) ∧ (gb529 ≠ s_) ∧ (s_ ≠ gb529) ∧ (gb535 ≠ s_) ∧ (s_ ≠ gb535) ∧ (gb544 ≠ s_) ∧ (s_ ≠ gb544) ∧ (Below w.heap.size w w')) ?_ ?_
                            rotate_left
                            · intro hCont
                              refine two_ (i := 6) (j := 10) (Ni := some 121) (Nj := some 20) #[true, true, true, true, true, true, true, false, false, false, false, false, false] #[true, true, true, true, true, true, false, false, false, false, true, false, false] rfl rfl rfl rfl (two_of HT_.out (by kernel_rfl)) (by decide) (by decide) (fun K hK => ?_) (fun K hK => ?_)
                              · skip
                                refine goes_ Tryd.func20 (by kernel_rfl) rfl #[.int .i64 (rd ([6, 8, 10] : List Int) x19_3), .agg #[.int .i64 a2_0, .int .i64 a2_1, .string a2_2, .bool a2_3], .agg #[.int .i64 a3_0, .int .i64 a3_1, .string a3_2, .bool a3_3]] (by rfl) rfl rfl (by (try simp only [List.map_toArray, List.map_cons, List.map_nil]); first | done | rfl | (simp only [List.length_drop, List.length_take]; rfl)) ?_
                                with_reducible refine (value_Binary.calls k3 (rd ([6, 8, 10] : List Int) x19_3) a2_0 a2_1 a2_2 a2_3 a3_0 a3_1 a3_2 a3_3 t545 t546 t547 t548 t549 _ ?side1 A290.out).mono ?_
                                (case side1 => first | (with_reducible exact HL_LG0) | exact ⟨LG0.below HL_LG0.out (hbT HB.out)⟩)
                                rintro e w373 ⟨rfl, hb⟩
                                refine ⟨_, rfl, ?_⟩
                                replace BK513 := bbA BK513 hb; replace BK514 := bbA BK514 hb; replace BK516 := bbA BK516 hb; replace BK517 := bbA BK517 hb; replace BK523 := bbA BK523 hb; replace BK529 := bbA BK529 hb; replace BK535 := bbA BK535 hb; replace BK544 := bbA BK544 hb; replace HB := bsA HB hb
                                (try clear hb); (try clear hb2); (try clear hk); (try clear hi)
                                refine hK.out _ _ ⟨(blk_cell BK513.out 0).trans rfl, (blk_cell BK513.out 1).trans rfl, (blk_cell BK513.out 2).trans rfl, (blk_cell BK513.out 3).trans rfl, (blk_cell BK514.out 0).trans rfl, (blk_cell BK514.out 1).trans rfl, (blk_cell BK514.out 2).trans rfl, (blk_cell BK514.out 3).trans rfl, (hAai372 _ BK544.out)⟩ (fun hHeld => ?_)
                                clear hK K
                                refine norm_ (a' := ?_) ?_ ?_
                                rotate_left
                                · show Act.put _ (some 121) _ = _
                                  simp only [Act.put, List.setIfInBounds_toArray, List.set_cons_zero, List.set_cons_succ, i64_w, i32_w, IntKind.wrap_u8, IntKind.wrap_u16, IntKind.wrap_u32]
                                  rfl
                                refine pure_ (i := 7) (N := some 114) (v := ?_) (a' := ?_) #[true, true, true, true, true, true, true, true, false, false, false, false, false] rfl rfl (any_of HT_.out (by kernel_rfl)) (fun _ _ _ h => h) (Or.inl ⟨by rfl, ?_⟩) ?_ ?_
                                rotate_left; (focus (intro w'; go_simp; with_reducible rfl)); rotate_left; (focus (simp only [Act.put, List.setIfInBounds_toArray, List.set_cons_zero, List.set_cons_succ, i64_w, i32_w, IntKind.wrap_u8, IntKind.wrap_u16, IntKind.wrap_u32]; rfl))
                                refine pure_ (i := 8) (N := some 122) (v := ?_) (a' := ?_) #[true, true, true, true, true, true, true, true, true, false, false, false, false] rfl rfl (any_of HT_.out (by kernel_rfl)) (fun _ _ _ h => h) (Or.inl ⟨by rfl, ?_⟩) ?_ ?_
                                rotate_left; (focus (intro w'; go_simp; with_reducible rfl)); rotate_left; (focus (simp only [Act.put, List.setIfInBounds_toArray, List.set_cons_zero, List.set_cons_succ, i64_w, i32_w, IntKind.wrap_u8, IntKind.wrap_u16, IntKind.wrap_u32]; rfl))
                                refine pure_ (i := 9) (N := some 123) (v := ?_) (a' := ?_) #[true, true, true, true, true, true, true, true, true, true, false, false, false] rfl rfl (any_of HT_.out (by kernel_rfl)) (fun _ _ _ h => h) (Or.inl ⟨by rfl, ?_⟩) ?_ ?_
                                rotate_left; (focus (intro w'; go_simp; with_reducible rfl)); rotate_left; (focus (simp only [Act.put, List.setIfInBounds_toArray, List.set_cons_zero, List.set_cons_succ, i64_w, i32_w, IntKind.wrap_u8, IntKind.wrap_u16, IntKind.wrap_u32]; rfl))
                                refine one_ (i := 10) (N := some 20) #[true, true, true, true, true, true, true, true, true, true, true, false, false] rfl rfl (one_of HT_.out (by kernel_rfl)) (by decide) (fun K hK => ?_)
                                refine box_step ?hg (N := 20) ?hd (cs := #[.int .i64 0, .int .i64 0, .string (⟨#[]⟩ : ByteArray), .bool false]) (t := 26) ?hr ?_; (case hd => rfl); (case hg => rfl); (case hr => first | (go_simp; done) | (go_simp; rfl))
                                intro gb550 hg w374 hbox hb
                                have BK550 := Aside0.mk hbox; have GW550 := geA hg HB; have GE550 := geA hg HB; have NB513_550 := neA hg BK513; have NB550_513 := neB hg BK513; have NB514_550 := neA hg BK514; have NB550_514 := neB hg BK514; have NB516_550 := neA hg BK516; have NB550_516 := neB hg BK516; have NB517_550 := neA hg BK517; have NB550_517 := neB hg BK517; have NB523_550 := neA hg BK523; have NB550_523 := neB hg BK523; have NB529_550 := neA hg BK529; have NB550_529 := neB hg BK529; have NB535_550 := neA hg BK535; have NB550_535 := neB hg BK535; have NB544_550 := neA hg BK544; have NB550_544 := neB hg BK544; replace BK513 := bbA BK513 hb; replace BK514 := bbA BK514 hb; replace BK516 := bbA BK516 hb; replace BK517 := bbA BK517 hb; replace BK523 := bbA BK523 hb; replace BK529 := bbA BK529 hb; replace BK535 := bbA BK535 hb; replace BK544 := bbA BK544 hb; replace HB := bsA HB hb
                                clear hb hbox hg
                                refine hK.out _ _ ⟨(blk_cell BK513.out 0).trans rfl, (blk_cell BK513.out 1).trans rfl, (blk_cell BK513.out 2).trans rfl, (blk_cell BK513.out 3).trans rfl, (blk_cell BK514.out 0).trans rfl, (blk_cell BK514.out 1).trans rfl, (blk_cell BK514.out 2).trans rfl, (blk_cell BK514.out 3).trans rfl, (hAai372 _ BK544.out)⟩ (fun hHeld => ?_)
                                clear hK K
                                refine norm_ (a' := ?_) ?_ ?_
                                rotate_left
                                · show Act.put _ (some 20) _ = _
                                  simp only [Act.put, List.setIfInBounds_toArray, List.set_cons_zero, List.set_cons_succ, i64_w, i32_w, IntKind.wrap_u8, IntKind.wrap_u16, IntKind.wrap_u32]
                                  rfl
                                exact norm_ (by simp only [putAll, Act.put, List.setIfInBounds_toArray, List.set_cons_zero, List.set_cons_succ]) (hCont (gb550) _ ⟨hHeld, (bkT BK513.out), (bkT BK514.out), (bkT BK516.out), (bkT BK517.out), (bkT BK523.out), (bkT BK529.out), (bkT BK535.out), (bkT BK544.out), (bkT BK550.out), GW550.out, GE550.out, NB513_550.out, NB550_513.out, NB514_550.out, NB550_514.out, NB516_550.out, NB550_516.out, NB517_550.out, NB550_517.out, NB523_550.out, NB550_523.out, NB529_550.out, NB550_529.out, NB535_550.out, NB550_535.out, NB544_550.out, NB550_544.out, (hbT HB.out)⟩)
                              · skip
                                refine box_step ?hg (N := 20) ?hd (cs := #[.int .i64 0, .int .i64 0, .string (⟨#[]⟩ : ByteArray), .bool false]) (t := 26) ?hr ?_; (case hd => rfl); (case hg => rfl); (case hr => first | (go_simp; done) | (go_simp; rfl))
                                intro gb550 hg w373 hbox hb
                                have BK550 := Aside0.mk hbox; have GW550 := geA hg HB; have GE550 := geA hg HB; have NB513_550 := neA hg BK513; have NB550_513 := neB hg BK513; have NB514_550 := neA hg BK514; have NB550_514 := neB hg BK514; have NB516_550 := neA hg BK516; have NB550_516 := neB hg BK516; have NB517_550 := neA hg BK517; have NB550_517 := neB hg BK517; have NB523_550 := neA hg BK523; have NB550_523 := neB hg BK523; have NB529_550 := neA hg BK529; have NB550_529 := neB hg BK529; have NB535_550 := neA hg BK535; have NB550_535 := neB hg BK535; have NB544_550 := neA hg BK544; have NB550_544 := neB hg BK544; replace BK513 := bbA BK513 hb; replace BK514 := bbA BK514 hb; replace BK516 := bbA BK516 hb; replace BK517 := bbA BK517 hb; replace BK523 := bbA BK523 hb; replace BK529 := bbA BK529 hb; replace BK535 := bbA BK535 hb; replace BK544 := bbA BK544 hb; replace HB := bsA HB hb
                                clear hb hbox hg
                                refine hK.out _ _ ⟨(blk_cell BK513.out 0).trans rfl, (blk_cell BK513.out 1).trans rfl, (blk_cell BK513.out 2).trans rfl, (blk_cell BK513.out 3).trans rfl, (blk_cell BK514.out 0).trans rfl, (blk_cell BK514.out 1).trans rfl, (blk_cell BK514.out 2).trans rfl, (blk_cell BK514.out 3).trans rfl, (hAai372 _ BK544.out)⟩ (fun hHeld => ?_)
                                clear hK K
                                refine norm_ (a' := ?_) ?_ ?_
                                rotate_left
                                · show Act.put _ (some 20) _ = _
                                  simp only [Act.put, List.setIfInBounds_toArray, List.set_cons_zero, List.set_cons_succ, i64_w, i32_w, IntKind.wrap_u8, IntKind.wrap_u16, IntKind.wrap_u32]
                                  rfl
                                refine one_ (i := 6) (N := some 121) #[true, true, true, true, true, true, true, false, false, false, true, false, false] rfl rfl (one_of HT_.out (by kernel_rfl)) (by decide) (fun K hK => ?_)
                                refine goes_ Tryd.func20 (by kernel_rfl) rfl #[.int .i64 (rd ([6, 8, 10] : List Int) x19_3), .agg #[.int .i64 a2_0, .int .i64 a2_1, .string a2_2, .bool a2_3], .agg #[.int .i64 a3_0, .int .i64 a3_1, .string a3_2, .bool a3_3]] (by rfl) rfl rfl (by (try simp only [List.map_toArray, List.map_cons, List.map_nil]); first | done | rfl | (simp only [List.length_drop, List.length_take]; rfl)) ?_
                                with_reducible refine (value_Binary.calls k3 (rd ([6, 8, 10] : List Int) x19_3) a2_0 a2_1 a2_2 a2_3 a3_0 a3_1 a3_2 a3_3 t545 t546 t547 t548 t549 _ ?side1 A290.out).mono ?_
                                (case side1 => first | (with_reducible exact HL_LG0) | exact ⟨LG0.below HL_LG0.out (hbT HB.out)⟩)
                                rintro e w374 ⟨rfl, hb⟩
                                refine ⟨_, rfl, ?_⟩
                                replace BK513 := bbA BK513 hb; replace BK514 := bbA BK514 hb; replace BK516 := bbA BK516 hb; replace BK517 := bbA BK517 hb; replace BK523 := bbA BK523 hb; replace BK529 := bbA BK529 hb; replace BK535 := bbA BK535 hb; replace BK544 := bbA BK544 hb; replace BK550 := bbA BK550 hb; replace HB := bsA HB hb
                                (try clear hb); (try clear hb2); (try clear hk); (try clear hi)
                                refine hK.out _ _ ⟨(blk_cell BK513.out 0).trans rfl, (blk_cell BK513.out 1).trans rfl, (blk_cell BK513.out 2).trans rfl, (blk_cell BK513.out 3).trans rfl, (blk_cell BK514.out 0).trans rfl, (blk_cell BK514.out 1).trans rfl, (blk_cell BK514.out 2).trans rfl, (blk_cell BK514.out 3).trans rfl, (hAai372 _ BK544.out)⟩ (fun hHeld => ?_)
                                clear hK K
                                refine norm_ (a' := ?_) ?_ ?_
                                rotate_left
                                · show Act.put _ (some 121) _ = _
                                  simp only [Act.put, List.setIfInBounds_toArray, List.set_cons_zero, List.set_cons_succ, i64_w, i32_w, IntKind.wrap_u8, IntKind.wrap_u16, IntKind.wrap_u32]
                                  rfl
                                refine pure_ (i := 7) (N := some 114) (v := ?_) (a' := ?_) #[true, true, true, true, true, true, true, true, false, false, true, false, false] rfl rfl (any_of HT_.out (by kernel_rfl)) (fun _ _ _ h => h) (Or.inl ⟨by rfl, ?_⟩) ?_ ?_
                                rotate_left; (focus (intro w'; go_simp; with_reducible rfl)); rotate_left; (focus (simp only [Act.put, List.setIfInBounds_toArray, List.set_cons_zero, List.set_cons_succ, i64_w, i32_w, IntKind.wrap_u8, IntKind.wrap_u16, IntKind.wrap_u32]; rfl))
                                refine pure_ (i := 8) (N := some 122) (v := ?_) (a' := ?_) #[true, true, true, true, true, true, true, true, true, false, true, false, false] rfl rfl (any_of HT_.out (by kernel_rfl)) (fun _ _ _ h => h) (Or.inl ⟨by rfl, ?_⟩) ?_ ?_
                                rotate_left; (focus (intro w'; go_simp; with_reducible rfl)); rotate_left; (focus (simp only [Act.put, List.setIfInBounds_toArray, List.set_cons_zero, List.set_cons_succ, i64_w, i32_w, IntKind.wrap_u8, IntKind.wrap_u16, IntKind.wrap_u32]; rfl))
                                refine pure_ (i := 9) (N := some 123) (v := ?_) (a' := ?_) #[true, true, true, true, true, true, true, true, true, true, true, false, false] rfl rfl (any_of HT_.out (by kernel_rfl)) (fun _ _ _ h => h) (Or.inl ⟨by rfl, ?_⟩) ?_ ?_
                                rotate_left; (focus (intro w'; go_simp; with_reducible rfl)); rotate_left; (focus (simp only [Act.put, List.setIfInBounds_toArray, List.set_cons_zero, List.set_cons_succ, i64_w, i32_w, IntKind.wrap_u8, IntKind.wrap_u16, IntKind.wrap_u32]; rfl))
                                exact norm_ (by simp only [putAll, Act.put, List.setIfInBounds_toArray, List.set_cons_zero, List.set_cons_succ]) (hCont (gb550) _ ⟨hHeld, (bkT BK513.out), (bkT BK514.out), (bkT BK516.out), (bkT BK517.out), (bkT BK523.out), (bkT BK529.out), (bkT BK535.out), (bkT BK544.out), (bkT BK550.out), GW550.out, GE550.out, NB513_550.out, NB550_513.out, NB514_550.out, NB550_514.out, NB516_550.out, NB550_516.out, NB517_550.out, NB550_517.out, NB523_550.out, NB550_523.out, NB529_550.out, NB550_529.out, NB535_550.out, NB550_535.out, NB544_550.out, NB550_544.out, (hbT HB.out)⟩)
                            rintro gb550 w375 ⟨hS_, h0_, h1_, h2_, h3_, h4_, h5_, h6_, h7_, h8_, h9_, h10_, h11_, h12_, h13_, h14_, h15_, h16_, h17_, h18_, h19_, h20_, h21_, h22_, h23_, h24_, h25_, h26_, h27_⟩
                            have n0_ : Aside0 (w375.heap[gb513]? = some (.cells #[.int .i64 a2_0, .int .i64 a2_1, .string a2_2, .bool a2_3] 26 (0, 0))) := ⟨h0_⟩
                            have n1_ : Aside0 (w375.heap[gb514]? = some (.cells #[.int .i64 a3_0, .int .i64 a3_1, .string a3_2, .bool a3_3] 26 (0, 0))) := ⟨h1_⟩
                            have n2_ : Aside0 (w375.heap[gb516]? = some (.cells #[.int .i64 3, .int .i64 0, .string (⟨#[]⟩ : ByteArray), .bool a0] 26 (0, 0))) := ⟨h2_⟩
                            have n3_ : Aside0 (w375.heap[gb517]? = some (.cells #[.int .i64 3, .int .i64 0, .string (⟨#[]⟩ : ByteArray), .bool a1] 26 (0, 0))) := ⟨h3_⟩
                            have n4_ : Aside0 (w375.heap[gb523]? = some (.cells #[.int .i64 t518, .int .i64 t519, .string t520, .bool t521] 26 (0, 0))) := ⟨h4_⟩
                            have n5_ : Aside0 (w375.heap[gb529]? = some (.cells #[.int .i64 t524, .int .i64 t525, .string t526, .bool t527] 26 (0, 0))) := ⟨h5_⟩
                            have n6_ : Aside0 (w375.heap[gb535]? = some (.cells #[.int .i64 t530, .int .i64 t531, .string t532, .bool t533] 26 (0, 0))) := ⟨h6_⟩
                            have n7_ : Aside0 (w375.heap[gb544]? = some (.cells #[.int .i64 6, .int .i64 7, .int .i64 8, .int .i64 11, .int .i64 10, .int .i64 9] 48 (0, 0))) := ⟨h7_⟩
                            have n8_ : Aside0 (w375.heap[gb550]? = some (.cells #[.int .i64 0, .int .i64 0, .string (⟨#[]⟩ : ByteArray), .bool false] 26 (0, 0))) := ⟨h8_⟩
                            have n9_ : Aside0 (w.heap.size ≤ gb550) := ⟨h9_⟩
                            have n10_ : Aside0 (w.heap.size ≤ gb550) := ⟨h10_⟩
                            have n11_ : Aside0 (gb513 ≠ gb550) := ⟨h11_⟩
                            have n12_ : Aside0 (gb550 ≠ gb513) := ⟨h12_⟩
                            have n13_ : Aside0 (gb514 ≠ gb550) := ⟨h13_⟩
                            have n14_ : Aside0 (gb550 ≠ gb514) := ⟨h14_⟩
                            have n15_ : Aside0 (gb516 ≠ gb550) := ⟨h15_⟩
                            have n16_ : Aside0 (gb550 ≠ gb516) := ⟨h16_⟩
                            have n17_ : Aside0 (gb517 ≠ gb550) := ⟨h17_⟩
                            have n18_ : Aside0 (gb550 ≠ gb517) := ⟨h18_⟩
                            have n19_ : Aside0 (gb523 ≠ gb550) := ⟨h19_⟩
                            have n20_ : Aside0 (gb550 ≠ gb523) := ⟨h20_⟩
                            have n21_ : Aside0 (gb529 ≠ gb550) := ⟨h21_⟩
                            have n22_ : Aside0 (gb550 ≠ gb529) := ⟨h22_⟩
                            have n23_ : Aside0 (gb535 ≠ gb550) := ⟨h23_⟩
                            have n24_ : Aside0 (gb550 ≠ gb535) := ⟨h24_⟩
                            have n25_ : Aside0 (gb544 ≠ gb550) := ⟨h25_⟩
                            have n26_ : Aside0 (gb550 ≠ gb544) := ⟨h26_⟩
                            have n27_ : Aside0 (Below w.heap.size w w375) := ⟨h27_⟩
                            clear BK513; clear BK514
                            clear BK516; clear BK517
                            clear BK523; clear BK529
                            clear BK535; clear BK544
                            clear HB
                            clear h0_ h1_ h2_ h3_ h4_ h5_ h6_ h7_ h8_ h9_ h10_ h11_ h12_ h13_ h14_ h15_ h16_ h17_ h18_ h19_ h20_ h21_ h22_ h23_ h24_ h25_ h26_ h27_
                            have BK513 := n0_
                            have BK514 := n1_
                            have BK516 := n2_
                            have BK517 := n3_
                            have BK523 := n4_
                            have BK529 := n5_
                            have BK535 := n6_
                            have BK544 := n7_
                            have BK550 := n8_
                            have GW550 := n9_
                            have GE550 := n10_
                            have NB513_550 := n11_
                            have NB550_513 := n12_
                            have NB514_550 := n13_
                            have NB550_514 := n14_
                            have NB516_550 := n15_
                            have NB550_516 := n16_
                            have NB517_550 := n17_
                            have NB550_517 := n18_
                            have NB523_550 := n19_
                            have NB550_523 := n20_
                            have NB529_550 := n21_
                            have NB550_529 := n22_
                            have NB535_550 := n23_
                            have NB550_535 := n24_
                            have NB544_550 := n25_
                            have NB550_544 := n26_
                            have HB := n27_
                            clear n0_ n1_ n2_ n3_ n4_ n5_ n6_ n7_ n8_ n9_ n10_ n11_ n12_ n13_ n14_ n15_ n16_ n17_ n18_ n19_ n20_ n21_ n22_ n23_ n24_ n25_ n26_ n27_
                            have hHeld : w375.cell? ⟨gb513, 0, none⟩ = some (.int .i64 a2_0) ∧ w375.cell? ⟨gb513, 1, none⟩ = some (.int .i64 a2_1) ∧ w375.cell? ⟨gb513, 2, none⟩ = some (.string a2_2) ∧ w375.cell? ⟨gb513, 3, none⟩ = some (.bool a2_3) ∧ w375.cell? ⟨gb514, 0, none⟩ = some (.int .i64 a3_0) ∧ w375.cell? ⟨gb514, 1, none⟩ = some (.int .i64 a3_1) ∧ w375.cell? ⟨gb514, 2, none⟩ = some (.string a3_2) ∧ w375.cell? ⟨gb514, 3, none⟩ = some (.bool a3_3) ∧ w375.cell? ⟨gb544, (x19_3 : Int).toNat * 2, none⟩ = some (.int .i64 (rd ([6, 8, 10] : List Int) x19_3)) := hS_
                            refine norm_ (a' := ?_) ?_ ?_
                            rotate_left
                            · simp only [putAll, Act.put, List.setIfInBounds_toArray, List.set_cons_zero, List.set_cons_succ]
                              rfl
                            refine one_ (i := 11) (N := none) #[true, true, true, true, true, true, true, true, true, true, true, true, false] rfl rfl (one_of HT_.out (by kernel_rfl)) (by decide) (fun K hK => ?_)
                            have hs376 : w375.cell? ⟨gb550, 0, none⟩ = some (.int .i64 0) := (blk_cell BK550.out 0).trans rfl
                            have hfs376 := blk_frozen BK550.out 0; have hns376_0 := NB513_550.out; have hns376_1 := NB514_550.out; have hns376_2 := NB516_550.out; have hns376_3 := NB517_550.out; have hns376_4 := NB523_550.out; have hns376_5 := NB529_550.out; have hns376_6 := NB535_550.out; have hns376_7 := NB544_550.out; have hms376_0 := NB550_513.out; have hms376_1 := NB550_514.out; have hms376_2 := NB550_516.out; have hms376_3 := NB550_517.out; have hms376_4 := NB550_523.out; have hms376_5 := NB550_529.out; have hms376_6 := NB550_535.out; have hms376_7 := NB550_544.out
                            have hs377 : w375.cell? ⟨gb550, 1, none⟩ = some (.int .i64 0) := (blk_cell BK550.out 1).trans rfl
                            have hfs377 := blk_frozen BK550.out 1; have hns377_0 := NB513_550.out; have hns377_1 := NB514_550.out; have hns377_2 := NB516_550.out; have hns377_3 := NB517_550.out; have hns377_4 := NB523_550.out; have hns377_5 := NB529_550.out; have hns377_6 := NB535_550.out; have hns377_7 := NB544_550.out; have hms377_0 := NB550_513.out; have hms377_1 := NB550_514.out; have hms377_2 := NB550_516.out; have hms377_3 := NB550_517.out; have hms377_4 := NB550_523.out; have hms377_5 := NB550_529.out; have hms377_6 := NB550_535.out; have hms377_7 := NB550_544.out
                            have hs378 : w375.cell? ⟨gb550, 2, none⟩ = some (.string (⟨#[]⟩ : ByteArray)) := (blk_cell BK550.out 2).trans rfl
                            have hfs378 := blk_frozen BK550.out 2; have hns378_0 := NB513_550.out; have hns378_1 := NB514_550.out; have hns378_2 := NB516_550.out; have hns378_3 := NB517_550.out; have hns378_4 := NB523_550.out; have hns378_5 := NB529_550.out; have hns378_6 := NB535_550.out; have hns378_7 := NB544_550.out; have hms378_0 := NB550_513.out; have hms378_1 := NB550_514.out; have hms378_2 := NB550_516.out; have hms378_3 := NB550_517.out; have hms378_4 := NB550_523.out; have hms378_5 := NB550_529.out; have hms378_6 := NB550_535.out; have hms378_7 := NB550_544.out
                            have hs379 : w375.cell? ⟨gb550, 3, none⟩ = some (.bool false) := (blk_cell BK550.out 3).trans rfl
                            have hfs379 := blk_frozen BK550.out 3; have hns379_0 := NB513_550.out; have hns379_1 := NB514_550.out; have hns379_2 := NB516_550.out; have hns379_3 := NB517_550.out; have hns379_4 := NB523_550.out; have hns379_5 := NB529_550.out; have hns379_6 := NB535_550.out; have hns379_7 := NB544_550.out; have hms379_0 := NB550_513.out; have hms379_1 := NB550_514.out; have hms379_2 := NB550_516.out; have hms379_3 := NB550_517.out; have hms379_4 := NB550_523.out; have hms379_5 := NB550_529.out; have hms379_6 := NB550_535.out; have hms379_7 := NB550_544.out
                            refine skip_ (w1 := ?_) (by rfl) rfl ?_ ?_
                            rotate_left
                            · go_simp
                              rfl
                            refine hK.out _ _ ⟨(cfT NB513_550.out (hHeld.1)), (cfT NB513_550.out (hHeld.2.1)), (cfT NB513_550.out (hHeld.2.2.1)), (cfT NB513_550.out (hHeld.2.2.2.1)), (cfT NB514_550.out (hHeld.2.2.2.2.1)), (cfT NB514_550.out (hHeld.2.2.2.2.2.1)), (cfT NB514_550.out (hHeld.2.2.2.2.2.2.1)), (cfT NB514_550.out (hHeld.2.2.2.2.2.2.2.1)), (cfT NB544_550.out (hHeld.2.2.2.2.2.2.2.2))⟩ (fun hHeld => ?_)
                            clear hK K
                            refine pure_ (i := 12) (N := some 21) (v := ?_) (a' := ?_) #[true, true, true, true, true, true, true, true, true, true, true, true, true] rfl rfl (any_of HT_.out (by kernel_rfl)) (fun _ _ _ h => h) (Or.inl ⟨by rfl, ?_⟩) ?_ ?_
                            rotate_left; (focus (intro w'; go_simp; with_reducible rfl)); rotate_left; (focus (simp only [Act.put, List.setIfInBounds_toArray, List.set_cons_zero, List.set_cons_succ, i64_w, i32_w, IntKind.wrap_u8, IntKind.wrap_u16, IntKind.wrap_u32]; rfl))
                            refine done_ (done_of HT_.out (by kernel_rfl)) ?_
                            try go_wp2
                            have n0_ : Aside0 (((((w375.setCell ⟨gb550, 0, none⟩ (.int .i64 t545)).setCell ⟨gb550, 1, none⟩ (.int .i64 t546)).setCell ⟨gb550, 2, none⟩ (.string t547)).setCell ⟨gb550, 3, none⟩ (.bool t548)).heap[gb513]? = some (.cells #[.int .i64 a2_0, .int .i64 a2_1, .string a2_2, .bool a2_3] 26 (0, 0))) := ⟨bfT2 NB513_550.out BK513.out⟩
                            have n1_ : Aside0 (((((w375.setCell ⟨gb550, 0, none⟩ (.int .i64 t545)).setCell ⟨gb550, 1, none⟩ (.int .i64 t546)).setCell ⟨gb550, 2, none⟩ (.string t547)).setCell ⟨gb550, 3, none⟩ (.bool t548)).heap[gb514]? = some (.cells #[.int .i64 a3_0, .int .i64 a3_1, .string a3_2, .bool a3_3] 26 (0, 0))) := ⟨bfT2 NB514_550.out BK514.out⟩
                            have n2_ : Aside0 (((((w375.setCell ⟨gb550, 0, none⟩ (.int .i64 t545)).setCell ⟨gb550, 1, none⟩ (.int .i64 t546)).setCell ⟨gb550, 2, none⟩ (.string t547)).setCell ⟨gb550, 3, none⟩ (.bool t548)).heap[gb516]? = some (.cells #[.int .i64 3, .int .i64 0, .string (⟨#[]⟩ : ByteArray), .bool a0] 26 (0, 0))) := ⟨bfT2 NB516_550.out BK516.out⟩
                            have n3_ : Aside0 (((((w375.setCell ⟨gb550, 0, none⟩ (.int .i64 t545)).setCell ⟨gb550, 1, none⟩ (.int .i64 t546)).setCell ⟨gb550, 2, none⟩ (.string t547)).setCell ⟨gb550, 3, none⟩ (.bool t548)).heap[gb517]? = some (.cells #[.int .i64 3, .int .i64 0, .string (⟨#[]⟩ : ByteArray), .bool a1] 26 (0, 0))) := ⟨bfT2 NB517_550.out BK517.out⟩
                            have n4_ : Aside0 (((((w375.setCell ⟨gb550, 0, none⟩ (.int .i64 t545)).setCell ⟨gb550, 1, none⟩ (.int .i64 t546)).setCell ⟨gb550, 2, none⟩ (.string t547)).setCell ⟨gb550, 3, none⟩ (.bool t548)).heap[gb523]? = some (.cells #[.int .i64 t518, .int .i64 t519, .string t520, .bool t521] 26 (0, 0))) := ⟨bfT2 NB523_550.out BK523.out⟩
                            have n5_ : Aside0 (((((w375.setCell ⟨gb550, 0, none⟩ (.int .i64 t545)).setCell ⟨gb550, 1, none⟩ (.int .i64 t546)).setCell ⟨gb550, 2, none⟩ (.string t547)).setCell ⟨gb550, 3, none⟩ (.bool t548)).heap[gb529]? = some (.cells #[.int .i64 t524, .int .i64 t525, .string t526, .bool t527] 26 (0, 0))) := ⟨bfT2 NB529_550.out BK529.out⟩
                            have n6_ : Aside0 (((((w375.setCell ⟨gb550, 0, none⟩ (.int .i64 t545)).setCell ⟨gb550, 1, none⟩ (.int .i64 t546)).setCell ⟨gb550, 2, none⟩ (.string t547)).setCell ⟨gb550, 3, none⟩ (.bool t548)).heap[gb535]? = some (.cells #[.int .i64 t530, .int .i64 t531, .string t532, .bool t533] 26 (0, 0))) := ⟨bfT2 NB535_550.out BK535.out⟩
                            have n7_ : Aside0 (((((w375.setCell ⟨gb550, 0, none⟩ (.int .i64 t545)).setCell ⟨gb550, 1, none⟩ (.int .i64 t546)).setCell ⟨gb550, 2, none⟩ (.string t547)).setCell ⟨gb550, 3, none⟩ (.bool t548)).heap[gb544]? = some (.cells #[.int .i64 6, .int .i64 7, .int .i64 8, .int .i64 11, .int .i64 10, .int .i64 9] 48 (0, 0))) := ⟨bfT2 NB544_550.out BK544.out⟩
                            have n8_ : Aside0 (((((w375.setCell ⟨gb550, 0, none⟩ (.int .i64 t545)).setCell ⟨gb550, 1, none⟩ (.int .i64 t546)).setCell ⟨gb550, 2, none⟩ (.string t547)).setCell ⟨gb550, 3, none⟩ (.bool t548)).heap[gb550]? = some (.cells #[.int .i64 t545, .int .i64 t546, .string t547, .bool t548] 26 (0, 0))) := ⟨by (with_reducible repeat (first | refine blk_drewN ?_ _ | refine blk_drew ?_ | refine blk_alloc ?_ _)); refine blk_put (cs := #[.int .i64 t545, .int .i64 t546, .string t547, .bool false]) ?_ 3 _ rfl; (with_reducible repeat (first | refine blk_drewN ?_ _ | refine blk_drew ?_ | refine blk_alloc ?_ _)); refine blk_put (cs := #[.int .i64 t545, .int .i64 t546, .string (⟨#[]⟩ : ByteArray), .bool false]) ?_ 2 _ rfl; (with_reducible repeat (first | refine blk_drewN ?_ _ | refine blk_drew ?_ | refine blk_alloc ?_ _)); refine blk_put (cs := #[.int .i64 t545, .int .i64 0, .string (⟨#[]⟩ : ByteArray), .bool false]) ?_ 1 _ rfl; (with_reducible repeat (first | refine blk_drewN ?_ _ | refine blk_drew ?_ | refine blk_alloc ?_ _)); refine blk_put (cs := #[.int .i64 0, .int .i64 0, .string (⟨#[]⟩ : ByteArray), .bool false]) ?_ 0 _ rfl; (with_reducible repeat (first | refine blk_drewN ?_ _ | refine blk_drew ?_ | refine blk_alloc ?_ _)); exact BK550.out⟩
                            have n9_ : Aside0 (Below w.heap.size w ((((w375.setCell ⟨gb550, 0, none⟩ (.int .i64 t545)).setCell ⟨gb550, 1, none⟩ (.int .i64 t546)).setCell ⟨gb550, 2, none⟩ (.string t547)).setCell ⟨gb550, 3, none⟩ (.bool t548))) := ⟨hbT HB.out⟩
                            (try clear BK513)
                            (try clear BK514)
                            (try clear BK516)
                            (try clear BK517)
                            (try clear BK523)
                            (try clear BK529)
                            (try clear BK535)
                            (try clear BK544)
                            (try clear BK550)
                            (try clear HB)
                            generalize ((((w375.setCell ⟨gb550, 0, none⟩ (.int .i64 t545)).setCell ⟨gb550, 1, none⟩ (.int .i64 t546)).setCell ⟨gb550, 2, none⟩ (.string t547)).setCell ⟨gb550, 3, none⟩ (.bool t548)) = w380 at n0_ n1_ n2_ n3_ n4_ n5_ n6_ n7_ n8_ n9_ ⊢
                            have BK513 := n0_
                            have BK514 := n1_
                            have BK516 := n2_
                            have BK517 := n3_
                            have BK523 := n4_
                            have BK529 := n5_
                            have BK535 := n6_
                            have BK544 := n7_
                            have BK550 := n8_
                            have HB := n9_
                            clear n0_ n1_ n2_ n3_ n4_ n5_ n6_ n7_ n8_ n9_
                            replace BK513 := bdA BK513; replace BK514 := bdA BK514; replace BK516 := bdA BK516; replace BK517 := bdA BK517; replace BK523 := bdA BK523; replace BK529 := bdA BK529; replace BK535 := bdA BK535; replace BK544 := bdA BK544; replace BK550 := bdA BK550; replace HB := Aside0.mk (below_drew1 HB.out)
                            have hpai382 : 0 ≤ (x19_3 : Int) := of_decide_eq_true (by first | (with_reducible assumption) | assumption)
                            have hqai382 : (x19_3 : Int) < 3 := of_decide_eq_true (by first | (with_reducible assumption) | assumption)
                            have hAai382 : ∀ w_ : World, w_.heap[gb544]? = some (.cells #[.int .i64 6, .int .i64 7, .int .i64 8, .int .i64 11, .int .i64 10, .int .i64 9] 48 (0, 0)) → w_.cell? ⟨gb544, (x19_3 : Int).toNat * 2 + 1, none⟩ = some (.int .i64 (rd ([7, 11, 9] : List Int) x19_3)) := fun w_ h_ => (blk_cell h_ _).trans (by obtain ⟨m_, rfl⟩ := Int.eq_ofNat_of_zero_le hpai382; exact match m_, hqai382 with | 0, _ => rfl | 1, _ => rfl | 2, _ => rfl | n_ + 3, h_ => absurd h_ (by omega))
                            replace hpai382 := eq_true hpai382
                            replace hqai382 := eq_true hqai382
                            refine start_ (n := 13) (S := fun w' => w'.cell? ⟨gb513, 0, none⟩ = some (.int .i64 a2_0) ∧ w'.cell? ⟨gb513, 1, none⟩ = some (.int .i64 a2_1) ∧ w'.cell? ⟨gb513, 2, none⟩ = some (.string a2_2) ∧ w'.cell? ⟨gb513, 3, none⟩ = some (.bool a2_3) ∧ w'.cell? ⟨gb514, 0, none⟩ = some (.int .i64 a3_0) ∧ w'.cell? ⟨gb514, 1, none⟩ = some (.int .i64 a3_1) ∧ w'.cell? ⟨gb514, 2, none⟩ = some (.string a3_2) ∧ w'.cell? ⟨gb514, 3, none⟩ = some (.bool a3_3) ∧ w'.cell? ⟨gb544, (x19_3 : Int).toNat * 2 + 1, none⟩ = some (.int .i64 (rd ([7, 11, 9] : List Int) x19_3))) (ds := []) #[false, false, false, false, false, false, false, false, false, false, false, false, false] (by kernel_rfl) rfl rfl ⟨(blk_cell BK513.out 0).trans rfl, (blk_cell BK513.out 1).trans rfl, (blk_cell BK513.out 2).trans rfl, (blk_cell BK513.out 3).trans rfl, (blk_cell BK514.out 0).trans rfl, (blk_cell BK514.out 1).trans rfl, (blk_cell BK514.out 2).trans rfl, (blk_cell BK514.out 3).trans rfl, (hAai382 _ BK544.out)⟩ (fun hHeld => ?_); refine with_tabW refrainlaw1_ValueLogic.tab18 refrainlaw1_ValueLogic.bits18 (fun HT_ HW_ => ?_)
                            generalize w380.drew = w381 at BK513 BK514 BK516 BK517 BK523 BK529 BK535 BK544 BK550 HB hHeld ⊢
                            refine pure_ (i := 0) (N := some 125) (v := ?_) (a' := ?_) #[true, false, false, false, false, false, false, false, false, false, false, false, false] rfl rfl (any_of HT_.out (by kernel_rfl)) (fun _ _ _ h => h) (Or.inl ⟨by rfl, ?_⟩) ?_ ?_
                            rotate_left; (focus (intro w'; go_simp; with_reducible rfl)); rotate_left; (focus (simp only [Act.put, List.setIfInBounds_toArray, List.set_cons_zero, List.set_cons_succ, i64_w, i32_w, IntKind.wrap_u8, IntKind.wrap_u16, IntKind.wrap_u32]; rfl))
                            refine pure_ (i := 1) (N := some 126) (v := ?_) (a' := ?_) #[true, true, false, false, false, false, false, false, false, false, false, false, false] rfl rfl (any_of HT_.out (by kernel_rfl)) (fun _ _ _ h => h) (Or.inl ⟨by rfl, ?_⟩) ?_ ?_
                            rotate_left; (focus (intro w'; go_simp; with_reducible rfl)); rotate_left; (focus (simp only [Act.put, List.setIfInBounds_toArray, List.set_cons_zero, List.set_cons_succ, i64_w, i32_w, IntKind.wrap_u8, IntKind.wrap_u16, IntKind.wrap_u32]; rfl))
                            refine pure_ (i := 2) (N := some 127) (v := ?_) (a' := ?_) #[true, true, true, false, false, false, false, false, false, false, false, false, false] rfl rfl (any_of HT_.out (by kernel_rfl)) (fun _ _ _ h => h) (Or.inl ⟨by rfl, ?_⟩) ?_ ?_
                            rotate_left; (focus (intro w'; go_simp; with_reducible rfl)); rotate_left; (focus (simp only [Act.put, List.setIfInBounds_toArray, List.set_cons_zero, List.set_cons_succ, i64_w, i32_w, IntKind.wrap_u8, IntKind.wrap_u16, IntKind.wrap_u32]; rfl))
                            refine take_ (i := 3) (N := some 128) (v := ?_) (a' := ?_) #[true, true, true, true, false, false, false, false, false, false, false, false, false] rfl rfl (take_ofW HT_.out HW_.out (by kernel_rfl)) (fun _ _ _ h => h) (Or.inl ⟨by rfl, ?_⟩) hHeld ?_ ?_
                            rotate_left; (focus (rintro w' ⟨s0, s1, s2, s3, s4, s5, s6, s7, s8⟩; go_simp; with_reducible rfl)); rotate_left; (focus (simp only [Act.put, List.setIfInBounds_toArray, List.set_cons_zero, List.set_cons_succ, i64_w, i32_w, IntKind.wrap_u8, IntKind.wrap_u16, IntKind.wrap_u32]; rfl))
                            refine take_ (i := 4) (N := some 129) (v := ?_) (a' := ?_) #[true, true, true, true, true, false, false, false, false, false, false, false, false] rfl rfl (take_ofW HT_.out HW_.out (by kernel_rfl)) (fun _ _ _ h => h) (Or.inl ⟨by rfl, ?_⟩) hHeld ?_ ?_
                            rotate_left; (focus (rintro w' ⟨s0, s1, s2, s3, s4, s5, s6, s7, s8⟩; go_simp; with_reducible rfl)); rotate_left; (focus (simp only [Act.put, List.setIfInBounds_toArray, List.set_cons_zero, List.set_cons_succ, i64_w, i32_w, IntKind.wrap_u8, IntKind.wrap_u16, IntKind.wrap_u32]; rfl))
                            refine take_ (i := 5) (N := some 130) (v := ?_) (a' := ?_) #[true, true, true, true, true, true, false, false, false, false, false, false, false] rfl rfl (take_ofW HT_.out HW_.out (by kernel_rfl)) (fun _ _ _ h => h) (Or.inl ⟨by rfl, ?_⟩) hHeld ?_ ?_
                            rotate_left; (focus (rintro w' ⟨s0, s1, s2, s3, s4, s5, s6, s7, s8⟩; go_simp; with_reducible rfl)); rotate_left; (focus (simp only [Act.put, List.setIfInBounds_toArray, List.set_cons_zero, List.set_cons_succ, i64_w, i32_w, IntKind.wrap_u8, IntKind.wrap_u16, IntKind.wrap_u32]; rfl))
                            refine join_ (σ := Nat) 2 #[true, true, true, true, true, true, true, true, true, true, true, false, false] (fun s_ => [(131, .tuple #[.agg #[.int .i64 t551, .int .i64 t552, .string t553, .bool t554], .int .i64 t555]), (22, .pointer (some ⟨s_, 0, none⟩)), (124, .tuple #[.agg #[.int .i64 t551, .int .i64 t552, .string t553, .bool t554], .int .i64 t555]), (132, .agg #[.int .i64 t551, .int .i64 t552, .string t553, .bool t554]), (133, .int .i64 t555)]) (fun s_ w' => (w'.cell? ⟨gb513, 0, none⟩ = some (.int .i64 a2_0) ∧ w'.cell? ⟨gb513, 1, none⟩ = some (.int .i64 a2_1) ∧ w'.cell? ⟨gb513, 2, none⟩ = some (.string a2_2) ∧ w'.cell? ⟨gb513, 3, none⟩ = some (.bool a2_3) ∧ w'.cell? ⟨gb514, 0, none⟩ = some (.int .i64 a3_0) ∧ w'.cell? ⟨gb514, 1, none⟩ = some (.int .i64 a3_1) ∧ w'.cell? ⟨gb514, 2, none⟩ = some (.string a3_2) ∧ w'.cell? ⟨gb514, 3, none⟩ = some (.bool a3_3) ∧ w'.cell? ⟨gb544, (x19_3 : Int).toNat * 2 + 1, none⟩ = some (.int .i64 (rd ([7, 11, 9] : List Int) x19_3))) ∧ (w'.heap[gb513]? = some (.cells #[.int .i64 a2_0, .int .i64 a2_1, .string a2_2, .bool a2_3] 26 (0, 0))) ∧ (w'.heap[gb514]? = some (.cells #[.int .i64 a3_0, .int .i64 a3_1, .string a3_2, .bool a3_3] 26 (0, 0))) ∧ (w'.heap[gb516]? = some (.cells #[.int .i64 3, .int .i64 0, .string (⟨#[]⟩ : ByteArray), .bool a0] 26 (0, 0))) ∧ (w'.heap[gb517]? = some (.cells #[.int .i64 3, .int .i64 0, .string (⟨#[]⟩ : ByteArray), .bool a1] 26 (0, 0))) ∧ (w'.heap[gb523]? = some (.cells #[.int .i64 t518, .int .i64 t519, .string t520, .bool t521] 26 (0, 0))) ∧ (w'.heap[gb529]? = some (.cells #[.int .i64 t524, .int .i64 t525, .string t526, .bool t527] 26 (0, 0))) ∧ (w'.heap[gb535]? = some (.cells #[.int .i64 t530, .int .i64 t531, .string t532, .bool t533] 26 (0, 0))) ∧ (w'.heap[gb544]? = some (.cells #[.int .i64 6, .int .i64 7, .int .i64 8, .int .i64 11, .int .i64 10, .int .i64 9] 48 (0, 0))) ∧ (w'.heap[gb550]? = some (.cells #[.int .i64 t545, .int .i64 t546, .string t547, .bool t548] 26 (0, 0))) ∧ (w'.heap[s_]? = some (.cells #[.int .i64 0, .int .i64 0, .string (⟨#[]⟩ : ByteArray), .bool false] 26 (0, 0))) ∧ (w.heap.size ≤ s_) ∧ (w.heap.size ≤ s_) ∧ (gb513 ≠ s_) ∧ (s_ ≠ gb513) ∧ (gb514 ≠ s_) ∧ (s_ ≠ gb514) ∧ (gb516 ≠ s_) ∧ (s_ ≠ gb516) ∧ (gb517 ≠ s_) ∧ (s_ ≠ gb517) ∧ (gb523 ≠ s_) ∧ (s_ ≠ gb523) ∧ (gb529 ≠ s_) ∧ (s_ ≠ gb529) ∧ (gb535 ≠ s_) ∧ (s_ ≠ gb535) ∧ (gb544 ≠ s_) ∧ (s_ ≠ gb544) ∧ (gb550 ≠ s_) ∧ (s_ ≠ gb550) ∧ (Below w.heap.size w w')) ?_ ?_
                            rotate_left
                            · intro hCont
                              refine two_ (i := 6) (j := 10) (Ni := some 131) (Nj := some 22) #[true, true, true, true, true, true, true, false, false, false, false, false, false] #[true, true, true, true, true, true, false, false, false, false, true, false, false] rfl rfl rfl rfl (two_of HT_.out (by kernel_rfl)) (by decide) (by decide) (fun K hK => ?_) (fun K hK => ?_)
                              · skip
                                refine goes_ Tryd.func20 (by kernel_rfl) rfl #[.int .i64 (rd ([7, 11, 9] : List Int) x19_3), .agg #[.int .i64 a2_0, .int .i64 a2_1, .string a2_2, .bool a2_3], .agg #[.int .i64 a3_0, .int .i64 a3_1, .string a3_2, .bool a3_3]] (by rfl) rfl rfl (by (try simp only [List.map_toArray, List.map_cons, List.map_nil]); first | done | rfl | (simp only [List.length_drop, List.length_take]; rfl)) ?_
                                with_reducible refine (value_Binary.calls k3 (rd ([7, 11, 9] : List Int) x19_3) a2_0 a2_1 a2_2 a2_3 a3_0 a3_1 a3_2 a3_3 t551 t552 t553 t554 t555 _ ?side1 A291.out).mono ?_
                                (case side1 => first | (with_reducible exact HL_LG0) | exact ⟨LG0.below HL_LG0.out (hbT HB.out)⟩)
                                rintro e w383 ⟨rfl, hb⟩
                                refine ⟨_, rfl, ?_⟩
                                replace BK513 := bbA BK513 hb; replace BK514 := bbA BK514 hb; replace BK516 := bbA BK516 hb; replace BK517 := bbA BK517 hb; replace BK523 := bbA BK523 hb; replace BK529 := bbA BK529 hb; replace BK535 := bbA BK535 hb; replace BK544 := bbA BK544 hb; replace BK550 := bbA BK550 hb; replace HB := bsA HB hb
                                (try clear hb); (try clear hb2); (try clear hk); (try clear hi)
                                refine hK.out _ _ ⟨(blk_cell BK513.out 0).trans rfl, (blk_cell BK513.out 1).trans rfl, (blk_cell BK513.out 2).trans rfl, (blk_cell BK513.out 3).trans rfl, (blk_cell BK514.out 0).trans rfl, (blk_cell BK514.out 1).trans rfl, (blk_cell BK514.out 2).trans rfl, (blk_cell BK514.out 3).trans rfl, (hAai382 _ BK544.out)⟩ (fun hHeld => ?_)
                                clear hK K
                                refine norm_ (a' := ?_) ?_ ?_
                                rotate_left
                                · show Act.put _ (some 131) _ = _
                                  simp only [Act.put, List.setIfInBounds_toArray, List.set_cons_zero, List.set_cons_succ, i64_w, i32_w, IntKind.wrap_u8, IntKind.wrap_u16, IntKind.wrap_u32]
                                  rfl
                                refine pure_ (i := 7) (N := some 124) (v := ?_) (a' := ?_) #[true, true, true, true, true, true, true, true, false, false, false, false, false] rfl rfl (any_of HT_.out (by kernel_rfl)) (fun _ _ _ h => h) (Or.inl ⟨by rfl, ?_⟩) ?_ ?_
                                rotate_left; (focus (intro w'; go_simp; with_reducible rfl)); rotate_left; (focus (simp only [Act.put, List.setIfInBounds_toArray, List.set_cons_zero, List.set_cons_succ, i64_w, i32_w, IntKind.wrap_u8, IntKind.wrap_u16, IntKind.wrap_u32]; rfl))
                                refine pure_ (i := 8) (N := some 132) (v := ?_) (a' := ?_) #[true, true, true, true, true, true, true, true, true, false, false, false, false] rfl rfl (any_of HT_.out (by kernel_rfl)) (fun _ _ _ h => h) (Or.inl ⟨by rfl, ?_⟩) ?_ ?_
                                rotate_left; (focus (intro w'; go_simp; with_reducible rfl)); rotate_left; (focus (simp only [Act.put, List.setIfInBounds_toArray, List.set_cons_zero, List.set_cons_succ, i64_w, i32_w, IntKind.wrap_u8, IntKind.wrap_u16, IntKind.wrap_u32]; rfl))
                                refine pure_ (i := 9) (N := some 133) (v := ?_) (a' := ?_) #[true, true, true, true, true, true, true, true, true, true, false, false, false] rfl rfl (any_of HT_.out (by kernel_rfl)) (fun _ _ _ h => h) (Or.inl ⟨by rfl, ?_⟩) ?_ ?_
                                rotate_left; (focus (intro w'; go_simp; with_reducible rfl)); rotate_left; (focus (simp only [Act.put, List.setIfInBounds_toArray, List.set_cons_zero, List.set_cons_succ, i64_w, i32_w, IntKind.wrap_u8, IntKind.wrap_u16, IntKind.wrap_u32]; rfl))
                                refine one_ (i := 10) (N := some 22) #[true, true, true, true, true, true, true, true, true, true, true, false, false] rfl rfl (one_of HT_.out (by kernel_rfl)) (by decide) (fun K hK => ?_)
                                refine box_step ?hg (N := 22) ?hd (cs := #[.int .i64 0, .int .i64 0, .string (⟨#[]⟩ : ByteArray), .bool false]) (t := 26) ?hr ?_; (case hd => rfl); (case hg => rfl); (case hr => first | (go_simp; done) | (go_simp; rfl))
                                intro gb556 hg w384 hbox hb
                                have BK556 := Aside0.mk hbox; have GW556 := geA hg HB; have GE556 := geA hg HB; have NB513_556 := neA hg BK513; have NB556_513 := neB hg BK513; have NB514_556 := neA hg BK514; have NB556_514 := neB hg BK514; have NB516_556 := neA hg BK516; have NB556_516 := neB hg BK516; have NB517_556 := neA hg BK517; have NB556_517 := neB hg BK517; have NB523_556 := neA hg BK523; have NB556_523 := neB hg BK523; have NB529_556 := neA hg BK529; have NB556_529 := neB hg BK529; have NB535_556 := neA hg BK535; have NB556_535 := neB hg BK535; have NB544_556 := neA hg BK544; have NB556_544 := neB hg BK544; have NB550_556 := neA hg BK550; have NB556_550 := neB hg BK550; replace BK513 := bbA BK513 hb; replace BK514 := bbA BK514 hb; replace BK516 := bbA BK516 hb; replace BK517 := bbA BK517 hb; replace BK523 := bbA BK523 hb; replace BK529 := bbA BK529 hb; replace BK535 := bbA BK535 hb; replace BK544 := bbA BK544 hb; replace BK550 := bbA BK550 hb; replace HB := bsA HB hb
                                clear hb hbox hg
                                refine hK.out _ _ ⟨(blk_cell BK513.out 0).trans rfl, (blk_cell BK513.out 1).trans rfl, (blk_cell BK513.out 2).trans rfl, (blk_cell BK513.out 3).trans rfl, (blk_cell BK514.out 0).trans rfl, (blk_cell BK514.out 1).trans rfl, (blk_cell BK514.out 2).trans rfl, (blk_cell BK514.out 3).trans rfl, (hAai382 _ BK544.out)⟩ (fun hHeld => ?_)
                                clear hK K
                                refine norm_ (a' := ?_) ?_ ?_
                                rotate_left
                                · show Act.put _ (some 22) _ = _
                                  simp only [Act.put, List.setIfInBounds_toArray, List.set_cons_zero, List.set_cons_succ, i64_w, i32_w, IntKind.wrap_u8, IntKind.wrap_u16, IntKind.wrap_u32]
                                  rfl
                                exact norm_ (by simp only [putAll, Act.put, List.setIfInBounds_toArray, List.set_cons_zero, List.set_cons_succ]) (hCont (gb556) _ ⟨hHeld, (bkT BK513.out), (bkT BK514.out), (bkT BK516.out), (bkT BK517.out), (bkT BK523.out), (bkT BK529.out), (bkT BK535.out), (bkT BK544.out), (bkT BK550.out), (bkT BK556.out), GW556.out, GE556.out, NB513_556.out, NB556_513.out, NB514_556.out, NB556_514.out, NB516_556.out, NB556_516.out, NB517_556.out, NB556_517.out, NB523_556.out, NB556_523.out, NB529_556.out, NB556_529.out, NB535_556.out, NB556_535.out, NB544_556.out, NB556_544.out, NB550_556.out, NB556_550.out, (hbT HB.out)⟩)
                              · skip
                                refine box_step ?hg (N := 22) ?hd (cs := #[.int .i64 0, .int .i64 0, .string (⟨#[]⟩ : ByteArray), .bool false]) (t := 26) ?hr ?_; (case hd => rfl); (case hg => rfl); (case hr => first | (go_simp; done) | (go_simp; rfl))
                                intro gb556 hg w383 hbox hb
                                have BK556 := Aside0.mk hbox; have GW556 := geA hg HB; have GE556 := geA hg HB; have NB513_556 := neA hg BK513; have NB556_513 := neB hg BK513; have NB514_556 := neA hg BK514; have NB556_514 := neB hg BK514; have NB516_556 := neA hg BK516; have NB556_516 := neB hg BK516; have NB517_556 := neA hg BK517; have NB556_517 := neB hg BK517; have NB523_556 := neA hg BK523; have NB556_523 := neB hg BK523; have NB529_556 := neA hg BK529; have NB556_529 := neB hg BK529; have NB535_556 := neA hg BK535; have NB556_535 := neB hg BK535; have NB544_556 := neA hg BK544; have NB556_544 := neB hg BK544; have NB550_556 := neA hg BK550; have NB556_550 := neB hg BK550; replace BK513 := bbA BK513 hb; replace BK514 := bbA BK514 hb; replace BK516 := bbA BK516 hb; replace BK517 := bbA BK517 hb; replace BK523 := bbA BK523 hb; replace BK529 := bbA BK529 hb; replace BK535 := bbA BK535 hb; replace BK544 := bbA BK544 hb; replace BK550 := bbA BK550 hb; replace HB := bsA HB hb
                                clear hb hbox hg
                                refine hK.out _ _ ⟨(blk_cell BK513.out 0).trans rfl, (blk_cell BK513.out 1).trans rfl, (blk_cell BK513.out 2).trans rfl, (blk_cell BK513.out 3).trans rfl, (blk_cell BK514.out 0).trans rfl, (blk_cell BK514.out 1).trans rfl, (blk_cell BK514.out 2).trans rfl, (blk_cell BK514.out 3).trans rfl, (hAai382 _ BK544.out)⟩ (fun hHeld => ?_)
                                clear hK K
                                refine norm_ (a' := ?_) ?_ ?_
                                rotate_left
                                · show Act.put _ (some 22) _ = _
                                  simp only [Act.put, List.setIfInBounds_toArray, List.set_cons_zero, List.set_cons_succ, i64_w, i32_w, IntKind.wrap_u8, IntKind.wrap_u16, IntKind.wrap_u32]
                                  rfl
                                refine one_ (i := 6) (N := some 131) #[true, true, true, true, true, true, true, false, false, false, true, false, false] rfl rfl (one_of HT_.out (by kernel_rfl)) (by decide) (fun K hK => ?_)
                                refine goes_ Tryd.func20 (by kernel_rfl) rfl #[.int .i64 (rd ([7, 11, 9] : List Int) x19_3), .agg #[.int .i64 a2_0, .int .i64 a2_1, .string a2_2, .bool a2_3], .agg #[.int .i64 a3_0, .int .i64 a3_1, .string a3_2, .bool a3_3]] (by rfl) rfl rfl (by (try simp only [List.map_toArray, List.map_cons, List.map_nil]); first | done | rfl | (simp only [List.length_drop, List.length_take]; rfl)) ?_
                                with_reducible refine (value_Binary.calls k3 (rd ([7, 11, 9] : List Int) x19_3) a2_0 a2_1 a2_2 a2_3 a3_0 a3_1 a3_2 a3_3 t551 t552 t553 t554 t555 _ ?side1 A291.out).mono ?_
                                (case side1 => first | (with_reducible exact HL_LG0) | exact ⟨LG0.below HL_LG0.out (hbT HB.out)⟩)
                                rintro e w384 ⟨rfl, hb⟩
                                refine ⟨_, rfl, ?_⟩
                                replace BK513 := bbA BK513 hb; replace BK514 := bbA BK514 hb; replace BK516 := bbA BK516 hb; replace BK517 := bbA BK517 hb; replace BK523 := bbA BK523 hb; replace BK529 := bbA BK529 hb; replace BK535 := bbA BK535 hb; replace BK544 := bbA BK544 hb; replace BK550 := bbA BK550 hb; replace BK556 := bbA BK556 hb; replace HB := bsA HB hb
                                (try clear hb); (try clear hb2); (try clear hk); (try clear hi)
                                refine hK.out _ _ ⟨(blk_cell BK513.out 0).trans rfl, (blk_cell BK513.out 1).trans rfl, (blk_cell BK513.out 2).trans rfl, (blk_cell BK513.out 3).trans rfl, (blk_cell BK514.out 0).trans rfl, (blk_cell BK514.out 1).trans rfl, (blk_cell BK514.out 2).trans rfl, (blk_cell BK514.out 3).trans rfl, (hAai382 _ BK544.out)⟩ (fun hHeld => ?_)
                                clear hK K
                                refine norm_ (a' := ?_) ?_ ?_
                                rotate_left
                                · show Act.put _ (some 131) _ = _
                                  simp only [Act.put, List.setIfInBounds_toArray, List.set_cons_zero, List.set_cons_succ, i64_w, i32_w, IntKind.wrap_u8, IntKind.wrap_u16, IntKind.wrap_u32]
                                  rfl
                                refine pure_ (i := 7) (N := some 124) (v := ?_) (a' := ?_) #[true, true, true, true, true, true, true, true, false, false, true, false, false] rfl rfl (any_of HT_.out (by kernel_rfl)) (fun _ _ _ h => h) (Or.inl ⟨by rfl, ?_⟩) ?_ ?_
                                rotate_left; (focus (intro w'; go_simp; with_reducible rfl)); rotate_left; (focus (simp only [Act.put, List.setIfInBounds_toArray, List.set_cons_zero, List.set_cons_succ, i64_w, i32_w, IntKind.wrap_u8, IntKind.wrap_u16, IntKind.wrap_u32]; rfl))
                                refine pure_ (i := 8) (N := some 132) (v := ?_) (a' := ?_) #[true, true, true, true, true, true, true, true, true, false, true, false, false] rfl rfl (any_of HT_.out (by kernel_rfl)) (fun _ _ _ h => h) (Or.inl ⟨by rfl, ?_⟩) ?_ ?_
                                rotate_left; (focus (intro w'; go_simp; with_reducible rfl)); rotate_left; (focus (simp only [Act.put, List.setIfInBounds_toArray, List.set_cons_zero, List.set_cons_succ, i64_w, i32_w, IntKind.wrap_u8, IntKind.wrap_u16, IntKind.wrap_u32]; rfl))
                                refine pure_ (i := 9) (N := some 133) (v := ?_) (a' := ?_) #[true, true, true, true, true, true, true, true, true, true, true, false, false] rfl rfl (any_of HT_.out (by kernel_rfl)) (fun _ _ _ h => h) (Or.inl ⟨by rfl, ?_⟩) ?_ ?_
                                rotate_left; (focus (intro w'; go_simp; with_reducible rfl)); rotate_left; (focus (simp only [Act.put, List.setIfInBounds_toArray, List.set_cons_zero, List.set_cons_succ, i64_w, i32_w, IntKind.wrap_u8, IntKind.wrap_u16, IntKind.wrap_u32]; rfl))
                                exact norm_ (by simp only [putAll, Act.put, List.setIfInBounds_toArray, List.set_cons_zero, List.set_cons_succ]) (hCont (gb556) _ ⟨hHeld, (bkT BK513.out), (bkT BK514.out), (bkT BK516.out), (bkT BK517.out), (bkT BK523.out), (bkT BK529.out), (bkT BK535.out), (bkT BK544.out), (bkT BK550.out), (bkT BK556.out), GW556.out, GE556.out, NB513_556.out, NB556_513.out, NB514_556.out, NB556_514.out, NB516_556.out, NB556_516.out, NB517_556.out, NB556_517.out, NB523_556.out, NB556_523.out, NB529_556.out, NB556_529.out, NB535_556.out, NB556_535.out, NB544_556.out, NB556_544.out, NB550_556.out, NB556_550.out, (hbT HB.out)⟩)
                            rintro gb556 w385 ⟨hS_, h0_, h1_, h2_, h3_, h4_, h5_, h6_, h7_, h8_, h9_, h10_, h11_, h12_, h13_, h14_, h15_, h16_, h17_, h18_, h19_, h20_, h21_, h22_, h23_, h24_, h25_, h26_, h27_, h28_, h29_, h30_⟩
                            have n0_ : Aside0 (w385.heap[gb513]? = some (.cells #[.int .i64 a2_0, .int .i64 a2_1, .string a2_2, .bool a2_3] 26 (0, 0))) := ⟨h0_⟩
                            have n1_ : Aside0 (w385.heap[gb514]? = some (.cells #[.int .i64 a3_0, .int .i64 a3_1, .string a3_2, .bool a3_3] 26 (0, 0))) := ⟨h1_⟩
                            have n2_ : Aside0 (w385.heap[gb516]? = some (.cells #[.int .i64 3, .int .i64 0, .string (⟨#[]⟩ : ByteArray), .bool a0] 26 (0, 0))) := ⟨h2_⟩
                            have n3_ : Aside0 (w385.heap[gb517]? = some (.cells #[.int .i64 3, .int .i64 0, .string (⟨#[]⟩ : ByteArray), .bool a1] 26 (0, 0))) := ⟨h3_⟩
                            have n4_ : Aside0 (w385.heap[gb523]? = some (.cells #[.int .i64 t518, .int .i64 t519, .string t520, .bool t521] 26 (0, 0))) := ⟨h4_⟩
                            have n5_ : Aside0 (w385.heap[gb529]? = some (.cells #[.int .i64 t524, .int .i64 t525, .string t526, .bool t527] 26 (0, 0))) := ⟨h5_⟩
                            have n6_ : Aside0 (w385.heap[gb535]? = some (.cells #[.int .i64 t530, .int .i64 t531, .string t532, .bool t533] 26 (0, 0))) := ⟨h6_⟩
                            have n7_ : Aside0 (w385.heap[gb544]? = some (.cells #[.int .i64 6, .int .i64 7, .int .i64 8, .int .i64 11, .int .i64 10, .int .i64 9] 48 (0, 0))) := ⟨h7_⟩
                            have n8_ : Aside0 (w385.heap[gb550]? = some (.cells #[.int .i64 t545, .int .i64 t546, .string t547, .bool t548] 26 (0, 0))) := ⟨h8_⟩
                            have n9_ : Aside0 (w385.heap[gb556]? = some (.cells #[.int .i64 0, .int .i64 0, .string (⟨#[]⟩ : ByteArray), .bool false] 26 (0, 0))) := ⟨h9_⟩
                            have n10_ : Aside0 (w.heap.size ≤ gb556) := ⟨h10_⟩
                            have n11_ : Aside0 (w.heap.size ≤ gb556) := ⟨h11_⟩
                            have n12_ : Aside0 (gb513 ≠ gb556) := ⟨h12_⟩
                            have n13_ : Aside0 (gb556 ≠ gb513) := ⟨h13_⟩
                            have n14_ : Aside0 (gb514 ≠ gb556) := ⟨h14_⟩
                            have n15_ : Aside0 (gb556 ≠ gb514) := ⟨h15_⟩
                            have n16_ : Aside0 (gb516 ≠ gb556) := ⟨h16_⟩
                            have n17_ : Aside0 (gb556 ≠ gb516) := ⟨h17_⟩
                            have n18_ : Aside0 (gb517 ≠ gb556) := ⟨h18_⟩
                            have n19_ : Aside0 (gb556 ≠ gb517) := ⟨h19_⟩
                            have n20_ : Aside0 (gb523 ≠ gb556) := ⟨h20_⟩
                            have n21_ : Aside0 (gb556 ≠ gb523) := ⟨h21_⟩
                            have n22_ : Aside0 (gb529 ≠ gb556) := ⟨h22_⟩
                            have n23_ : Aside0 (gb556 ≠ gb529) := ⟨h23_⟩
                            have n24_ : Aside0 (gb535 ≠ gb556) := ⟨h24_⟩
                            have n25_ : Aside0 (gb556 ≠ gb535) := ⟨h25_⟩
                            have n26_ : Aside0 (gb544 ≠ gb556) := ⟨h26_⟩
                            have n27_ : Aside0 (gb556 ≠ gb544) := ⟨h27_⟩
                            have n28_ : Aside0 (gb550 ≠ gb556) := ⟨h28_⟩
                            have n29_ : Aside0 (gb556 ≠ gb550) := ⟨h29_⟩
                            have n30_ : Aside0 (Below w.heap.size w w385) := ⟨h30_⟩
                            clear BK513; clear BK514
                            clear BK516; clear BK517
                            clear BK523; clear BK529
                            clear BK535; clear BK544
                            clear BK550; clear HB
                            clear h0_ h1_ h2_ h3_ h4_ h5_ h6_ h7_ h8_ h9_ h10_ h11_ h12_ h13_ h14_ h15_ h16_ h17_ h18_ h19_ h20_ h21_ h22_ h23_ h24_ h25_ h26_ h27_ h28_ h29_ h30_
                            have BK513 := n0_
                            have BK514 := n1_
                            have BK516 := n2_
                            have BK517 := n3_
                            have BK523 := n4_
                            have BK529 := n5_
                            have BK535 := n6_
                            have BK544 := n7_
                            have BK550 := n8_
                            have BK556 := n9_
                            have GW556 := n10_
                            have GE556 := n11_
                            have NB513_556 := n12_
                            have NB556_513 := n13_
                            have NB514_556 := n14_
                            have NB556_514 := n15_
                            have NB516_556 := n16_
                            have NB556_516 := n17_
                            have NB517_556 := n18_
                            have NB556_517 := n19_
                            have NB523_556 := n20_
                            have NB556_523 := n21_
                            have NB529_556 := n22_
                            have NB556_529 := n23_
                            have NB535_556 := n24_
                            have NB556_535 := n25_
                            have NB544_556 := n26_
                            have NB556_544 := n27_
                            have NB550_556 := n28_
                            have NB556_550 := n29_
                            have HB := n30_
                            clear n0_ n1_ n2_ n3_ n4_ n5_ n6_ n7_ n8_ n9_ n10_ n11_ n12_ n13_ n14_ n15_ n16_ n17_ n18_ n19_ n20_ n21_ n22_ n23_ n24_ n25_ n26_ n27_ n28_ n29_ n30_
                            have hHeld : w385.cell? ⟨gb513, 0, none⟩ = some (.int .i64 a2_0) ∧ w385.cell? ⟨gb513, 1, none⟩ = some (.int .i64 a2_1) ∧ w385.cell? ⟨gb513, 2, none⟩ = some (.string a2_2) ∧ w385.cell? ⟨gb513, 3, none⟩ = some (.bool a2_3) ∧ w385.cell? ⟨gb514, 0, none⟩ = some (.int .i64 a3_0) ∧ w385.cell? ⟨gb514, 1, none⟩ = some (.int .i64 a3_1) ∧ w385.cell? ⟨gb514, 2, none⟩ = some (.string a3_2) ∧ w385.cell? ⟨gb514, 3, none⟩ = some (.bool a3_3) ∧ w385.cell? ⟨gb544, (x19_3 : Int).toNat * 2 + 1, none⟩ = some (.int .i64 (rd ([7, 11, 9] : List Int) x19_3)) := hS_
                            refine norm_ (a' := ?_) ?_ ?_
                            rotate_left
                            · simp only [putAll, Act.put, List.setIfInBounds_toArray, List.set_cons_zero, List.set_cons_succ]
                              rfl
                            refine one_ (i := 11) (N := none) #[true, true, true, true, true, true, true, true, true, true, true, true, false] rfl rfl (one_of HT_.out (by kernel_rfl)) (by decide) (fun K hK => ?_)
                            have hs386 : w385.cell? ⟨gb556, 0, none⟩ = some (.int .i64 0) := (blk_cell BK556.out 0).trans rfl
                            have hfs386 := blk_frozen BK556.out 0; have hns386_0 := NB513_556.out; have hns386_1 := NB514_556.out; have hns386_2 := NB516_556.out; have hns386_3 := NB517_556.out; have hns386_4 := NB523_556.out; have hns386_5 := NB529_556.out; have hns386_6 := NB535_556.out; have hns386_7 := NB544_556.out; have hns386_8 := NB550_556.out; have hms386_0 := NB556_513.out; have hms386_1 := NB556_514.out; have hms386_2 := NB556_516.out; have hms386_3 := NB556_517.out; have hms386_4 := NB556_523.out; have hms386_5 := NB556_529.out; have hms386_6 := NB556_535.out; have hms386_7 := NB556_544.out; have hms386_8 := NB556_550.out
                            have hs387 : w385.cell? ⟨gb556, 1, none⟩ = some (.int .i64 0) := (blk_cell BK556.out 1).trans rfl
                            have hfs387 := blk_frozen BK556.out 1; have hns387_0 := NB513_556.out; have hns387_1 := NB514_556.out; have hns387_2 := NB516_556.out; have hns387_3 := NB517_556.out; have hns387_4 := NB523_556.out; have hns387_5 := NB529_556.out; have hns387_6 := NB535_556.out; have hns387_7 := NB544_556.out; have hns387_8 := NB550_556.out; have hms387_0 := NB556_513.out; have hms387_1 := NB556_514.out; have hms387_2 := NB556_516.out; have hms387_3 := NB556_517.out; have hms387_4 := NB556_523.out; have hms387_5 := NB556_529.out; have hms387_6 := NB556_535.out; have hms387_7 := NB556_544.out; have hms387_8 := NB556_550.out
                            have hs388 : w385.cell? ⟨gb556, 2, none⟩ = some (.string (⟨#[]⟩ : ByteArray)) := (blk_cell BK556.out 2).trans rfl
                            have hfs388 := blk_frozen BK556.out 2; have hns388_0 := NB513_556.out; have hns388_1 := NB514_556.out; have hns388_2 := NB516_556.out; have hns388_3 := NB517_556.out; have hns388_4 := NB523_556.out; have hns388_5 := NB529_556.out; have hns388_6 := NB535_556.out; have hns388_7 := NB544_556.out; have hns388_8 := NB550_556.out; have hms388_0 := NB556_513.out; have hms388_1 := NB556_514.out; have hms388_2 := NB556_516.out; have hms388_3 := NB556_517.out; have hms388_4 := NB556_523.out; have hms388_5 := NB556_529.out; have hms388_6 := NB556_535.out; have hms388_7 := NB556_544.out; have hms388_8 := NB556_550.out
                            have hs389 : w385.cell? ⟨gb556, 3, none⟩ = some (.bool false) := (blk_cell BK556.out 3).trans rfl
                            have hfs389 := blk_frozen BK556.out 3; have hns389_0 := NB513_556.out; have hns389_1 := NB514_556.out; have hns389_2 := NB516_556.out; have hns389_3 := NB517_556.out; have hns389_4 := NB523_556.out; have hns389_5 := NB529_556.out; have hns389_6 := NB535_556.out; have hns389_7 := NB544_556.out; have hns389_8 := NB550_556.out; have hms389_0 := NB556_513.out; have hms389_1 := NB556_514.out; have hms389_2 := NB556_516.out; have hms389_3 := NB556_517.out; have hms389_4 := NB556_523.out; have hms389_5 := NB556_529.out; have hms389_6 := NB556_535.out; have hms389_7 := NB556_544.out; have hms389_8 := NB556_550.out
                            refine skip_ (w1 := ?_) (by rfl) rfl ?_ ?_
                            rotate_left
                            · go_simp
                              rfl
                            refine hK.out _ _ ⟨(cfT NB513_556.out (hHeld.1)), (cfT NB513_556.out (hHeld.2.1)), (cfT NB513_556.out (hHeld.2.2.1)), (cfT NB513_556.out (hHeld.2.2.2.1)), (cfT NB514_556.out (hHeld.2.2.2.2.1)), (cfT NB514_556.out (hHeld.2.2.2.2.2.1)), (cfT NB514_556.out (hHeld.2.2.2.2.2.2.1)), (cfT NB514_556.out (hHeld.2.2.2.2.2.2.2.1)), (cfT NB544_556.out (hHeld.2.2.2.2.2.2.2.2))⟩ (fun hHeld => ?_)
                            clear hK K
                            refine pure_ (i := 12) (N := some 23) (v := ?_) (a' := ?_) #[true, true, true, true, true, true, true, true, true, true, true, true, true] rfl rfl (any_of HT_.out (by kernel_rfl)) (fun _ _ _ h => h) (Or.inl ⟨by rfl, ?_⟩) ?_ ?_
                            rotate_left; (focus (intro w'; go_simp; with_reducible rfl)); rotate_left; (focus (simp only [Act.put, List.setIfInBounds_toArray, List.set_cons_zero, List.set_cons_succ, i64_w, i32_w, IntKind.wrap_u8, IntKind.wrap_u16, IntKind.wrap_u32]; rfl))
                            refine done_ (done_of HT_.out (by kernel_rfl)) ?_
                            try go_wp2
                            go_roundg k3
                            case measure => have := HJ9.out; have := HJ85.out; have := HK3.out; omega
                            case rel => exact ⟨(wrap64 (x19_3 + 1)), (by first | rfl | (simp; done) | (simp [*]; done) | (simp; unfold wrap64; omega) | (congr 1; (try rw [Bool.eq_iff_iff]); simp [List.isEmpty_iff]; done)), H', ⟨by have := HJ9.out; have := HJ85.out; have := HK3.out; omega⟩, ⟨bfT2 NB513_556.out BK513.out⟩, ⟨bfT2 NB514_556.out BK514.out⟩, ⟨bfT2 NB516_556.out BK516.out⟩, ⟨bfT2 NB517_556.out BK517.out⟩, ⟨bfT2 NB523_556.out BK523.out⟩, ⟨bfT2 NB529_556.out BK529.out⟩, ⟨bfT2 NB535_556.out BK535.out⟩, ⟨bfT2 NB544_556.out BK544.out⟩, ⟨hbT HB.out⟩⟩
                        · rw [if_neg c292] at H
                          have c292b0 : (t549 == t555) = false := beq_eq_false_iff_ne.mpr c292
                          have c292b1 : (t549 != t555) = true := bne_iff_ne.mpr c292
                          exact absurd ((Option.some.inj H).trans hr.out) Bool.false_ne_true
                      · rw [if_neg c289] at H
                        exact absurd H (by simp)
                    · rw [if_neg c288] at H
                      have c288b0 : decide (x19_3 < 3) = false := decide_eq_false c288
                      clear c288
                      obtain rfl := Option.some.inj H
                      go_wp2
                      go_ret
                      exact ⟨by first | rfl | (simp [errW_none, errW_some] <;> rfl) | (simp [*, errW_none, errW_some] <;> rfl), hbT HB.out⟩
  · replace c6 := Bool.eq_false_iff.mpr c6
    subst c6
    have H1 : (some false) = some r := by rw [if_neg (show ¬ (false = true) by decide)] at H; exact H
    clear H
    have H := H1
    clear H1
    exact absurd ((Option.some.inj H).trans hr.out) Bool.false_ne_true

end Go.Proofs.YthhpeeckiggpaaaDoor.Pr

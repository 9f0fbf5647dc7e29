-- printed by a patched copy of the kit's print, for this seat
import Derived.Test.YthmcapdakplhdaaDoorPrx0
namespace Go.Proofs.YthmcapdakplhdaaDoor.Pr
open Go.RowKit Go.Proofs.YthmcapdakplhdaaDoorW.PrintWords Go.Proofs.YthmcapdakplhdaaDoorW.PrintLast Go.Proofs.YthmcapdakplhdaaDoorW.PrintMore
attribute [local go_sem] max2_int min2_int max_two min_two max_three min_three max_four min_four   -- for this text's walks alone
attribute [local go_sem high] Go.Proofs.YthmcapdakplhdaaDoor.isSome_setCell
set_option maxRecDepth 100000
set_option linter.unusedVariables false
set_option linter.unusedSimpArgs false

/-! ### refrainlaw5_plainest: function 22 -/
mutual
def refrainlaw5_plainest.l0 : Nat → List Int → Int → Int → Int → ByteArray → Int → ByteArray → ByteArray → ByteArray → ByteArray → ByteArray → ByteArray → ByteArray → ByteArray → ByteArray → ByteArray → ByteArray → ByteArray → ByteArray → ByteArray → ByteArray → ByteArray → ByteArray → ByteArray → ByteArray → Option (Int × ByteArray × Int)
  | 0, _, _, _, _, _, _, _, _, _, _, _, _, _, _, _, _, _, _, _, _, _, _, _, _, _ => none
  | k + 1, x4, x5, x6, x337000, x337001, x337002, x339000, x339001, x339002, x339003, x339004, x339005, x339006, x339007, x339008, x339009, x339010, x339011, x339012, x339013, x339014, x339015, x339016, x339017, x339018 => if x6 < (x337001.size : Int) then (if 0 ≤ x6 then (if (bt x337001 x6) ≥ 97 then (if (bt x337001 x6) ≤ 122 then (if x4.length < 140737488355328 then (refrainlaw5_plainest.l0 k (x4 ++ [bt x337001 x6]) (wrap64 (x5 + (wrap64 (bt x337001 x6)))) (wrap64 (x6 + 1)) x337000 x337001 x337002 x339000 x339001 x339002 x339003 x339004 x339005 x339006 x339007 x339008 x339009 x339010 x339011 x339012 x339013 x339014 x339015 x339016 x339017 x339018) else (none)) else (if (bt x337001 x6) ≥ 65 then (if (bt x337001 x6) ≤ 90 then (if x4.length < 140737488355328 then (refrainlaw5_plainest.l0 k (x4 ++ [bt x337001 x6]) (wrap64 (x5 + (wrap64 (bt x337001 x6)))) (wrap64 (x6 + 1)) x337000 x337001 x337002 x339000 x339001 x339002 x339003 x339004 x339005 x339006 x339007 x339008 x339009 x339010 x339011 x339012 x339013 x339014 x339015 x339016 x339017 x339018) else (none)) else (if (bt x337001 x6) = 95 then (if x4.length < 140737488355328 then (refrainlaw5_plainest.l0 k (x4 ++ [bt x337001 x6]) (wrap64 (x5 + (wrap64 (bt x337001 x6)))) (wrap64 (x6 + 1)) x337000 x337001 x337002 x339000 x339001 x339002 x339003 x339004 x339005 x339006 x339007 x339008 x339009 x339010 x339011 x339012 x339013 x339014 x339015 x339016 x339017 x339018) else (none)) else (if (bt x337001 x6) ≥ 48 then (if (bt x337001 x6) ≤ 57 then (if (x4.length : Int) > 0 then (if x4.length < 140737488355328 then (refrainlaw5_plainest.l0 k (x4 ++ [bt x337001 x6]) (wrap64 (x5 + (wrap64 (bt x337001 x6)))) (wrap64 (x6 + 1)) x337000 x337001 x337002 x339000 x339001 x339002 x339003 x339004 x339005 x339006 x339007 x339008 x339009 x339010 x339011 x339012 x339013 x339014 x339015 x339016 x339017 x339018) else (none)) else (refrainlaw5_plainest.l0 k x4 (wrap64 (x5 + (wrap64 (bt x337001 x6)))) (wrap64 (x6 + 1)) x337000 x337001 x337002 x339000 x339001 x339002 x339003 x339004 x339005 x339006 x339007 x339008 x339009 x339010 x339011 x339012 x339013 x339014 x339015 x339016 x339017 x339018)) else (refrainlaw5_plainest.l0 k x4 (wrap64 (x5 + (wrap64 (bt x337001 x6)))) (wrap64 (x6 + 1)) x337000 x337001 x337002 x339000 x339001 x339002 x339003 x339004 x339005 x339006 x339007 x339008 x339009 x339010 x339011 x339012 x339013 x339014 x339015 x339016 x339017 x339018)) else (refrainlaw5_plainest.l0 k x4 (wrap64 (x5 + (wrap64 (bt x337001 x6)))) (wrap64 (x6 + 1)) x337000 x337001 x337002 x339000 x339001 x339002 x339003 x339004 x339005 x339006 x339007 x339008 x339009 x339010 x339011 x339012 x339013 x339014 x339015 x339016 x339017 x339018)))) else (if (bt x337001 x6) = 95 then (if x4.length < 140737488355328 then (refrainlaw5_plainest.l0 k (x4 ++ [bt x337001 x6]) (wrap64 (x5 + (wrap64 (bt x337001 x6)))) (wrap64 (x6 + 1)) x337000 x337001 x337002 x339000 x339001 x339002 x339003 x339004 x339005 x339006 x339007 x339008 x339009 x339010 x339011 x339012 x339013 x339014 x339015 x339016 x339017 x339018) else (none)) else (if (bt x337001 x6) ≥ 48 then (if (bt x337001 x6) ≤ 57 then (if (x4.length : Int) > 0 then (if x4.length < 140737488355328 then (refrainlaw5_plainest.l0 k (x4 ++ [bt x337001 x6]) (wrap64 (x5 + (wrap64 (bt x337001 x6)))) (wrap64 (x6 + 1)) x337000 x337001 x337002 x339000 x339001 x339002 x339003 x339004 x339005 x339006 x339007 x339008 x339009 x339010 x339011 x339012 x339013 x339014 x339015 x339016 x339017 x339018) else (none)) else (refrainlaw5_plainest.l0 k x4 (wrap64 (x5 + (wrap64 (bt x337001 x6)))) (wrap64 (x6 + 1)) x337000 x337001 x337002 x339000 x339001 x339002 x339003 x339004 x339005 x339006 x339007 x339008 x339009 x339010 x339011 x339012 x339013 x339014 x339015 x339016 x339017 x339018)) else (refrainlaw5_plainest.l0 k x4 (wrap64 (x5 + (wrap64 (bt x337001 x6)))) (wrap64 (x6 + 1)) x337000 x337001 x337002 x339000 x339001 x339002 x339003 x339004 x339005 x339006 x339007 x339008 x339009 x339010 x339011 x339012 x339013 x339014 x339015 x339016 x339017 x339018)) else (refrainlaw5_plainest.l0 k x4 (wrap64 (x5 + (wrap64 (bt x337001 x6)))) (wrap64 (x6 + 1)) x337000 x337001 x337002 x339000 x339001 x339002 x339003 x339004 x339005 x339006 x339007 x339008 x339009 x339010 x339011 x339012 x339013 x339014 x339015 x339016 x339017 x339018))))) else (if (bt x337001 x6) ≥ 65 then (if (bt x337001 x6) ≤ 90 then (if x4.length < 140737488355328 then (refrainlaw5_plainest.l0 k (x4 ++ [bt x337001 x6]) (wrap64 (x5 + (wrap64 (bt x337001 x6)))) (wrap64 (x6 + 1)) x337000 x337001 x337002 x339000 x339001 x339002 x339003 x339004 x339005 x339006 x339007 x339008 x339009 x339010 x339011 x339012 x339013 x339014 x339015 x339016 x339017 x339018) else (none)) else (if (bt x337001 x6) = 95 then (if x4.length < 140737488355328 then (refrainlaw5_plainest.l0 k (x4 ++ [bt x337001 x6]) (wrap64 (x5 + (wrap64 (bt x337001 x6)))) (wrap64 (x6 + 1)) x337000 x337001 x337002 x339000 x339001 x339002 x339003 x339004 x339005 x339006 x339007 x339008 x339009 x339010 x339011 x339012 x339013 x339014 x339015 x339016 x339017 x339018) else (none)) else (if (bt x337001 x6) ≥ 48 then (if (bt x337001 x6) ≤ 57 then (if (x4.length : Int) > 0 then (if x4.length < 140737488355328 then (refrainlaw5_plainest.l0 k (x4 ++ [bt x337001 x6]) (wrap64 (x5 + (wrap64 (bt x337001 x6)))) (wrap64 (x6 + 1)) x337000 x337001 x337002 x339000 x339001 x339002 x339003 x339004 x339005 x339006 x339007 x339008 x339009 x339010 x339011 x339012 x339013 x339014 x339015 x339016 x339017 x339018) else (none)) else (refrainlaw5_plainest.l0 k x4 (wrap64 (x5 + (wrap64 (bt x337001 x6)))) (wrap64 (x6 + 1)) x337000 x337001 x337002 x339000 x339001 x339002 x339003 x339004 x339005 x339006 x339007 x339008 x339009 x339010 x339011 x339012 x339013 x339014 x339015 x339016 x339017 x339018)) else (refrainlaw5_plainest.l0 k x4 (wrap64 (x5 + (wrap64 (bt x337001 x6)))) (wrap64 (x6 + 1)) x337000 x337001 x337002 x339000 x339001 x339002 x339003 x339004 x339005 x339006 x339007 x339008 x339009 x339010 x339011 x339012 x339013 x339014 x339015 x339016 x339017 x339018)) else (refrainlaw5_plainest.l0 k x4 (wrap64 (x5 + (wrap64 (bt x337001 x6)))) (wrap64 (x6 + 1)) x337000 x337001 x337002 x339000 x339001 x339002 x339003 x339004 x339005 x339006 x339007 x339008 x339009 x339010 x339011 x339012 x339013 x339014 x339015 x339016 x339017 x339018)))) else (if (bt x337001 x6) = 95 then (if x4.length < 140737488355328 then (refrainlaw5_plainest.l0 k (x4 ++ [bt x337001 x6]) (wrap64 (x5 + (wrap64 (bt x337001 x6)))) (wrap64 (x6 + 1)) x337000 x337001 x337002 x339000 x339001 x339002 x339003 x339004 x339005 x339006 x339007 x339008 x339009 x339010 x339011 x339012 x339013 x339014 x339015 x339016 x339017 x339018) else (none)) else (if (bt x337001 x6) ≥ 48 then (if (bt x337001 x6) ≤ 57 then (if (x4.length : Int) > 0 then (if x4.length < 140737488355328 then (refrainlaw5_plainest.l0 k (x4 ++ [bt x337001 x6]) (wrap64 (x5 + (wrap64 (bt x337001 x6)))) (wrap64 (x6 + 1)) x337000 x337001 x337002 x339000 x339001 x339002 x339003 x339004 x339005 x339006 x339007 x339008 x339009 x339010 x339011 x339012 x339013 x339014 x339015 x339016 x339017 x339018) else (none)) else (refrainlaw5_plainest.l0 k x4 (wrap64 (x5 + (wrap64 (bt x337001 x6)))) (wrap64 (x6 + 1)) x337000 x337001 x337002 x339000 x339001 x339002 x339003 x339004 x339005 x339006 x339007 x339008 x339009 x339010 x339011 x339012 x339013 x339014 x339015 x339016 x339017 x339018)) else (refrainlaw5_plainest.l0 k x4 (wrap64 (x5 + (wrap64 (bt x337001 x6)))) (wrap64 (x6 + 1)) x337000 x337001 x337002 x339000 x339001 x339002 x339003 x339004 x339005 x339006 x339007 x339008 x339009 x339010 x339011 x339012 x339013 x339014 x339015 x339016 x339017 x339018)) else (refrainlaw5_plainest.l0 k x4 (wrap64 (x5 + (wrap64 (bt x337001 x6)))) (wrap64 (x6 + 1)) x337000 x337001 x337002 x339000 x339001 x339002 x339003 x339004 x339005 x339006 x339007 x339008 x339009 x339010 x339011 x339012 x339013 x339014 x339015 x339016 x339017 x339018))))) else (none)) else (if (Int.tmod x337000 4) < 0 then (refrainlaw5_plainest.j1 k x4 x5 (wrap64 ((Int.tmod x337000 4) + 4)) x337000 x337001 x337002 x339000 x339001 x339002 x339003 x339004 x339005 x339006 x339007 x339008 x339009 x339010 x339011 x339012 x339013 x339014 x339015 x339016 x339017 x339018) else (refrainlaw5_plainest.j1 k x4 x5 (Int.tmod x337000 4) x337000 x337001 x337002 x339000 x339001 x339002 x339003 x339004 x339005 x339006 x339007 x339008 x339009 x339010 x339011 x339012 x339013 x339014 x339015 x339016 x339017 x339018))
def refrainlaw5_plainest.j1 : Nat → List Int → Int → Int → Int → ByteArray → Int → ByteArray → ByteArray → ByteArray → ByteArray → ByteArray → ByteArray → ByteArray → ByteArray → ByteArray → ByteArray → ByteArray → ByteArray → ByteArray → ByteArray → ByteArray → ByteArray → ByteArray → ByteArray → ByteArray → Option (Int × ByteArray × Int)
  | 0, _, _, _, _, _, _, _, _, _, _, _, _, _, _, _, _, _, _, _, _, _, _, _, _, _ => none
  | k + 1, x4, x5, x8, x337000, x337001, x337002, x339000, x339001, x339002, x339003, x339004, x339005, x339006, x339007, x339008, x339009, x339010, x339011, x339012, x339013, x339014, x339015, x339016, x339017, x339018 => if x8 = 0 then (if (x4.length : Int) > 32 then (if 32 ≤ (x4.length : Int) then ((some (x4.take (32 : Int).toNat : List Int)).bind fun y372 => (if (y372.length : Int) = 0 then (some (1, strOfNums (([120] : List Int)), 0)) else (some (1, strOfNums y372, 0)))) else (none)) else (if (x4.length : Int) = 0 then (some (1, strOfNums (([120] : List Int)), 0)) else (some (1, strOfNums x4, 0)))) else (if x8 = 1 then ((some (([(wrap64 (49 + (Int.tmod x5 9))) % 256, (wrap64 (48 + (Int.tmod x5 10))) % 256, 48 + ((x337001.size : Int) % 10)] : List Int) : List Int)).bind fun y381 => (if 0 ≤ (wrap64 (1 + (Int.tmod x5 3))) then (if (wrap64 (1 + (Int.tmod x5 3))) ≤ ((strOfNums y381).size : Int) then (some (2, (strOfNums y381).extract 0 ((wrap64 (1 + (Int.tmod x5 3))) : Int).toNat, 0)) else (none)) else (none))) else (if x8 = 2 then (if (x337001.size : Int) > 200 then (if 0 ≤ 200 then (if 200 ≤ (x337001.size : Int) then (some (3, x337001.extract 0 200, 0)) else (none)) else (none)) else (some (3, x337001, 0))) else (if 0 ≤ (Int.tmod x5 19) then (if (Int.tmod x5 19) < 19 then (some (4, (arrAt ([x339000, x339001, x339002, x339003, x339004, x339005, x339006, x339007, x339008, x339009, x339010, x339011, x339012, x339013, x339014, x339015, x339016, x339017, x339018] : List ByteArray) (Int.tmod x5 19)), 0)) else (none)) else (none))))
end
def refrainlaw5_plainest.f (k : Nat) (a0_0 : Int) (a0_1 : ByteArray) (a0_2 : Int) : Option (Int × ByteArray × Int) := refrainlaw5_plainest.l0 k ([] : List Int) 0 0 a0_0 a0_1 a0_2 (⟨#[40]⟩ : ByteArray) (⟨#[41]⟩ : ByteArray) (⟨#[91]⟩ : ByteArray) (⟨#[93]⟩ : ByteArray) (⟨#[123]⟩ : ByteArray) (⟨#[125]⟩ : ByteArray) (⟨#[44]⟩ : ByteArray) (⟨#[46]⟩ : ByteArray) (⟨#[46, 46]⟩ : ByteArray) (⟨#[43]⟩ : ByteArray) (⟨#[45]⟩ : ByteArray) (⟨#[42]⟩ : ByteArray) (⟨#[61]⟩ : ByteArray) (⟨#[33, 61]⟩ : ByteArray) (⟨#[60]⟩ : ByteArray) (⟨#[60, 61]⟩ : ByteArray) (⟨#[62]⟩ : ByteArray) (⟨#[62, 61]⟩ : ByteArray) (⟨#[33]⟩ : ByteArray)
set_option maxRecDepth 100000 in
theorem refrainlaw5_plainest.l0_zero : ∀ y0 y1 y2 y3 y4 y5 y6 y7 y8 y9 y10 y11 y12 y13 y14 y15 y16 y17 y18 y19 y20 y21 y22 y23 y24, refrainlaw5_plainest.l0 0 y0 y1 y2 y3 y4 y5 y6 y7 y8 y9 y10 y11 y12 y13 y14 y15 y16 y17 y18 y19 y20 y21 y22 y23 y24 = none := fun _ _ _ _ _ _ _ _ _ _ _ _ _ _ _ _ _ _ _ _ _ _ _ _ _ => rfl
set_option maxRecDepth 100000 in
theorem refrainlaw5_plainest.j1_zero : ∀ y0 y1 y2 y3 y4 y5 y6 y7 y8 y9 y10 y11 y12 y13 y14 y15 y16 y17 y18 y19 y20 y21 y22 y23 y24, refrainlaw5_plainest.j1 0 y0 y1 y2 y3 y4 y5 y6 y7 y8 y9 y10 y11 y12 y13 y14 y15 y16 y17 y18 y19 y20 y21 y22 y23 y24 = none := fun _ _ _ _ _ _ _ _ _ _ _ _ _ _ _ _ _ _ _ _ _ _ _ _ _ => rfl
set_option maxRecDepth 100000 in
theorem refrainlaw5_plainest.mono_l : ∀ k, (∀ y0 y1 y2 y3 y4 y5 y6 y7 y8 y9 y10 y11 y12 y13 y14 y15 y16 y17 y18 y19 y20 y21 y22 y23 y24, LeO (refrainlaw5_plainest.l0 k y0 y1 y2 y3 y4 y5 y6 y7 y8 y9 y10 y11 y12 y13 y14 y15 y16 y17 y18 y19 y20 y21 y22 y23 y24) (refrainlaw5_plainest.l0 (k + 1) y0 y1 y2 y3 y4 y5 y6 y7 y8 y9 y10 y11 y12 y13 y14 y15 y16 y17 y18 y19 y20 y21 y22 y23 y24)) ∧ (∀ y0 y1 y2 y3 y4 y5 y6 y7 y8 y9 y10 y11 y12 y13 y14 y15 y16 y17 y18 y19 y20 y21 y22 y23 y24, LeO (refrainlaw5_plainest.j1 k y0 y1 y2 y3 y4 y5 y6 y7 y8 y9 y10 y11 y12 y13 y14 y15 y16 y17 y18 y19 y20 y21 y22 y23 y24) (refrainlaw5_plainest.j1 (k + 1) y0 y1 y2 y3 y4 y5 y6 y7 y8 y9 y10 y11 y12 y13 y14 y15 y16 y17 y18 y19 y20 y21 y22 y23 y24))
  | 0 => ⟨fun _ _ _ _ _ _ _ _ _ _ _ _ _ _ _ _ _ _ _ _ _ _ _ _ _ r h => by (unfold refrainlaw5_plainest.l0 at h; cases h), fun _ _ _ _ _ _ _ _ _ _ _ _ _ _ _ _ _ _ _ _ _ _ _ _ _ r h => by (unfold refrainlaw5_plainest.j1 at h; cases h)⟩
  | k + 1 => by
    obtain ⟨ih0, ih1⟩ := refrainlaw5_plainest.mono_l k
    refine ⟨?_, ?_⟩
    · intro y0 y1 y2 y3 y4 y5 y6 y7 y8 y9 y10 y11 y12 y13 y14 y15 y16 y17 y18 y19 y20 y21 y22 y23 y24
      unfold refrainlaw5_plainest.l0
      repeat' first
      | (with_reducible exact ih0 _ _ _ _ _ _ _ _ _ _ _ _ _ _ _ _ _ _ _ _ _ _ _ _ _)
      | (with_reducible exact ih1 _ _ _ _ _ _ _ _ _ _ _ _ _ _ _ _ _ _ _ _ _ _ _ _ _)
      | (with_reducible exact LeO.refl _)
      | (with_reducible exact LeO.none _)
      | (with_reducible refine LeO.ite ?_ ?_)
      | (with_reducible refine LeO.bind ?_ (fun _ => ?_))
      | exact ih0 _ _ _ _ _ _ _ _ _ _ _ _ _ _ _ _ _ _ _ _ _ _ _ _ _
      | exact ih1 _ _ _ _ _ _ _ _ _ _ _ _ _ _ _ _ _ _ _ _ _ _ _ _ _
      | exact LeO.none _
      | refine LeO.ite ?_ ?_
      | refine LeO.bind ?_ (fun _ => ?_)
    · intro y0 y1 y2 y3 y4 y5 y6 y7 y8 y9 y10 y11 y12 y13 y14 y15 y16 y17 y18 y19 y20 y21 y22 y23 y24
      unfold refrainlaw5_plainest.j1
      repeat' first
      | (with_reducible exact ih0 _ _ _ _ _ _ _ _ _ _ _ _ _ _ _ _ _ _ _ _ _ _ _ _ _)
      | (with_reducible exact ih1 _ _ _ _ _ _ _ _ _ _ _ _ _ _ _ _ _ _ _ _ _ _ _ _ _)
      | (with_reducible exact LeO.refl _)
      | (with_reducible exact LeO.none _)
      | (with_reducible refine LeO.ite ?_ ?_)
      | (with_reducible refine LeO.bind ?_ (fun _ => ?_))
      | exact ih0 _ _ _ _ _ _ _ _ _ _ _ _ _ _ _ _ _ _ _ _ _ _ _ _ _
      | exact ih1 _ _ _ _ _ _ _ _ _ _ _ _ _ _ _ _ _ _ _ _ _ _ _ _ _
      | exact LeO.none _
      | refine LeO.ite ?_ ?_
      | refine LeO.bind ?_ (fun _ => ?_)
set_option maxRecDepth 100000 in
theorem refrainlaw5_plainest.mono : ∀ a0 a1 a2 k, LeO (refrainlaw5_plainest.f k a0 a1 a2) (refrainlaw5_plainest.f (k + 1) a0 a1 a2) := by
  intro a0 a1 a2 k
  obtain ⟨ih0, ih1⟩ := refrainlaw5_plainest.mono_l k
  unfold refrainlaw5_plainest.f
  repeat' first
      | (with_reducible exact ih0 _ _ _ _ _ _ _ _ _ _ _ _ _ _ _ _ _ _ _ _ _ _ _ _ _)
      | (with_reducible exact ih1 _ _ _ _ _ _ _ _ _ _ _ _ _ _ _ _ _ _ _ _ _ _ _ _ _)
      | (with_reducible exact LeO.refl _)
      | (with_reducible exact LeO.none _)
      | (with_reducible refine LeO.ite ?_ ?_)
      | (with_reducible refine LeO.bind ?_ (fun _ => ?_))
      | exact ih0 _ _ _ _ _ _ _ _ _ _ _ _ _ _ _ _ _ _ _ _ _ _ _ _ _
      | exact ih1 _ _ _ _ _ _ _ _ _ _ _ _ _ _ _ _ _ _ _ _ _ _ _ _ _
      | exact LeO.none _
      | refine LeO.ite ?_ ?_
      | refine LeO.bind ?_ (fun _ => ?_)
set_option maxHeartbeats 8000000 in
set_option maxRecDepth 100000 in
theorem refrainlaw5_plainest.calls (k : Nat) (a0_0 : Int) (a0_1 : ByteArray) (a0_2 : Int) (r1 : Int) (r2 : ByteArray) (r3 : Int) (w : World) (h : refrainlaw5_plainest.f k a0_0 a0_1 a0_2 = some (r1, r2, r3)) :
    Calls Tryd.prog 22 #[.agg #[.int .i64 a0_0, .string a0_1, .int .i64 a0_2]] w fun e w' => e = .returned (.agg #[.int .i64 r1, .string r2, .int .i64 r3]) ∧ Below w.heap.size w w' := by
  have hu44 := Tryd.underlying44
  have hu97 := Tryd.underlying97
  have HB := Aside0.mk (Below.refl w.heap.size w)
  have H : (refrainlaw5_plainest.l0 k ([] : List Int) 0 0 a0_0 a0_1 a0_2 (⟨#[40]⟩ : ByteArray) (⟨#[41]⟩ : ByteArray) (⟨#[91]⟩ : ByteArray) (⟨#[93]⟩ : ByteArray) (⟨#[123]⟩ : ByteArray) (⟨#[125]⟩ : ByteArray) (⟨#[44]⟩ : ByteArray) (⟨#[46]⟩ : ByteArray) (⟨#[46, 46]⟩ : ByteArray) (⟨#[43]⟩ : ByteArray) (⟨#[45]⟩ : ByteArray) (⟨#[42]⟩ : ByteArray) (⟨#[61]⟩ : ByteArray) (⟨#[33, 61]⟩ : ByteArray) (⟨#[60]⟩ : ByteArray) (⟨#[60, 61]⟩ : ByteArray) (⟨#[62]⟩ : ByteArray) (⟨#[62, 61]⟩ : ByteArray) (⟨#[33]⟩ : ByteArray)) = some (r1, r2, r3) := h
  clear h
  have H' := Aside0.mk H
  clear H
  go_enter Tryd.func22, Tryd.ntmps22
  go_wp2_with (first | ((with_reducible refine gate_dst (N := 1) rfl ?_); (try (refine gate_guard (by rfl) ?_; dsimp only)); refine box_event ?hg (N := 1) ?hd (cs := #[.int .i64 a0_0, .string a0_1, .int .i64 a0_2]) (t := 44) ?hr ?_; (case hd => rfl); (case hg => rfl); (case hr => first | (go_simp; done) | (go_simp; rfl)); intro gb336 hg w2 hbox hb; have BK336 := Aside0.mk hbox; have GW336 := geA hg HB; have GE336 := geA hg HB; replace HB := bsA HB hb; clear hb hbox hg) | ((with_reducible refine gate_dst (N := 2) rfl ?_); (try (refine gate_guard (by rfl) ?_; dsimp only)); refine box_event ?hg (N := 2) ?hd (cs := #[.int .i64 0, .string (⟨#[]⟩ : ByteArray), .int .i64 0]) (t := 44) ?hr ?_; (case hd => rfl); (case hg => rfl); (case hr => first | (go_simp; done) | (go_simp; rfl)); intro gb337 hg w3 hbox hb; have BK337 := Aside0.mk hbox; have GW337 := geA hg HB; have GE337 := geA hg HB; have NB336_337 := neA hg BK336; have NB337_336 := neB hg BK336; replace BK336 := bbA BK336 hb; replace HB := bsA HB hb; clear hb hbox hg) | ((with_reducible refine gate_dst (N := 3) rfl ?_); (try (refine gate_guard (by rfl) ?_; dsimp only)); refine box_event ?hg (N := 3) ?hd (cs := #[.string (⟨#[]⟩ : ByteArray), .string (⟨#[]⟩ : ByteArray), .string (⟨#[]⟩ : ByteArray), .string (⟨#[]⟩ : ByteArray), .string (⟨#[]⟩ : ByteArray), .string (⟨#[]⟩ : ByteArray), .string (⟨#[]⟩ : ByteArray), .string (⟨#[]⟩ : ByteArray), .string (⟨#[]⟩ : ByteArray), .string (⟨#[]⟩ : ByteArray), .string (⟨#[]⟩ : ByteArray), .string (⟨#[]⟩ : ByteArray), .string (⟨#[]⟩ : ByteArray), .string (⟨#[]⟩ : ByteArray), .string (⟨#[]⟩ : ByteArray), .string (⟨#[]⟩ : ByteArray), .string (⟨#[]⟩ : ByteArray), .string (⟨#[]⟩ : ByteArray), .string (⟨#[]⟩ : ByteArray)]) (t := 97) ?hr ?_; (case hd => rfl); (case hg => rfl); (case hr => first | (go_simp; done) | (go_simp; rfl)); intro gb338 hg w4 hbox hb; have BK338 := Aside0.mk hbox; have GW338 := geA hg HB; have GE338 := geA hg HB; have NB336_338 := neA hg BK336; have NB338_336 := neB hg BK336; have NB337_338 := neA hg BK337; have NB338_337 := neB hg BK337; replace BK336 := bbA BK336 hb; replace BK337 := bbA BK337 hb; replace HB := bsA HB hb; clear hb hbox hg; have hnb5 := NB338_336.out; have hnc5 := NB336_338.out; have hnb6 := NB338_337.out; have hnc6 := NB337_338.out) | (refine store_row_event 97 3 rfl rfl rfl _ (bkT BK338.out) rfl rfl ?hs rfl rfl ?_; (case hs => first | (go_simp; done) | (go_simp; rfl)); intro ws_ hn_ hf_ hb_; replace BK336 := Aside0.mk (hf_ _ _ NB336_338.out (bkT BK336.out)); replace BK337 := Aside0.mk (hf_ _ _ NB337_338.out (bkT BK337.out)); replace BK338 := Aside0.mk hn_; replace HB := Aside0.mk (hb_ _ (hbT HB.out) GE338.out); clear hn_ hf_ hb_))
  go_loopg [4, 5, 6] k (fun kq v4 v5 v6 w' => ∃ (x4_1 : List Int) (x5_1 : Int) (x6_1 : Int), v5 = .int .i64 x5_1 ∧ v6 = .int .i64 x6_1 ∧ Aside0 (refrainlaw5_plainest.l0 kq x4_1 x5_1 x6_1 a0_0 a0_1 a0_2 (⟨#[40]⟩ : ByteArray) (⟨#[41]⟩ : ByteArray) (⟨#[91]⟩ : ByteArray) (⟨#[93]⟩ : ByteArray) (⟨#[123]⟩ : ByteArray) (⟨#[125]⟩ : ByteArray) (⟨#[44]⟩ : ByteArray) (⟨#[46]⟩ : ByteArray) (⟨#[46, 46]⟩ : ByteArray) (⟨#[43]⟩ : ByteArray) (⟨#[45]⟩ : ByteArray) (⟨#[42]⟩ : ByteArray) (⟨#[61]⟩ : ByteArray) (⟨#[33, 61]⟩ : ByteArray) (⟨#[60]⟩ : ByteArray) (⟨#[60, 61]⟩ : ByteArray) (⟨#[62]⟩ : ByteArray) (⟨#[62, 61]⟩ : ByteArray) (⟨#[33]⟩ : ByteArray) = some (r1, r2, r3)) ∧ Aside0 (kq ≤ k) ∧ Aside0 (Kd.R (Kd.int .u8) 5 w' w.heap.size (fun _ => True) v4 x4_1) ∧ Aside0 (w'.heap[gb336]? = some (.cells #[.int .i64 a0_0, .string a0_1, .int .i64 a0_2] 44 (0, 0))) ∧ Aside0 (w'.heap[gb337]? = some (.cells #[.int .i64 0, .string (⟨#[]⟩ : ByteArray), .int .i64 0] 44 (0, 0))) ∧ Aside0 (w'.heap[gb338]? = some (.cells #[.string (⟨#[40]⟩ : ByteArray), .string (⟨#[41]⟩ : ByteArray), .string (⟨#[91]⟩ : ByteArray), .string (⟨#[93]⟩ : ByteArray), .string (⟨#[123]⟩ : ByteArray), .string (⟨#[125]⟩ : ByteArray), .string (⟨#[44]⟩ : ByteArray), .string (⟨#[46]⟩ : ByteArray), .string (⟨#[46, 46]⟩ : ByteArray), .string (⟨#[43]⟩ : ByteArray), .string (⟨#[45]⟩ : ByteArray), .string (⟨#[42]⟩ : ByteArray), .string (⟨#[61]⟩ : ByteArray), .string (⟨#[33, 61]⟩ : ByteArray), .string (⟨#[60]⟩ : ByteArray), .string (⟨#[60, 61]⟩ : ByteArray), .string (⟨#[62]⟩ : ByteArray), .string (⟨#[62, 61]⟩ : ByteArray), .string (⟨#[33]⟩ : ByteArray)] 97 (0, 0))) ∧ Aside0 (Below w.heap.size w w'))
  case atStart => exact ⟨(([] : List Int)), (0), (0), (by first | rfl | (simp; done) | (simp [*]; done) | (simp; unfold wrap64; omega) | (congr 1; (try rw [Bool.eq_iff_iff]); simp [List.isEmpty_iff]; done)), (by first | rfl | (simp; done) | (simp [*]; done) | (simp; unfold wrap64; omega) | (congr 1; (try rw [Bool.eq_iff_iff]); simp [List.isEmpty_iff]; done)), H', ⟨Nat.le_refl _⟩, ⟨by first | exact Kd.R_nil _ _ _ _ _ | exact Kd.N_nil _ _ _ _ _ | exact Kd.V_nil _ _ _ _ _ | exact Kd.Q_nil _ _ _ _ _ | exact Kd.S_nil _ _ _ _ _⟩, ⟨bkT BK336.out⟩, ⟨bkT BK337.out⟩, ⟨bkT BK338.out⟩, ⟨hbT HB.out⟩⟩
  case round =>
    clear H'
    try clear c2
    try clear p2
    try clear c5
    try clear c6
    try clear hcz7_0
    try clear hcz7_1
    try clear hcz7_10
    try clear hcz7_11
    try clear hcz7_12
    try clear hcz7_13
    try clear hcz7_14
    try clear hcz7_15
    try clear hcz7_16
    try clear hcz7_17
    try clear hcz7_18
    try clear hcz7_2
    try clear hcz7_3
    try clear hcz7_4
    try clear hcz7_5
    try clear hcz7_6
    try clear hcz7_7
    try clear hcz7_8
    try clear hcz7_9
    try clear hfz7_0
    try clear hfz7_1
    try clear hfz7_10
    try clear hfz7_11
    try clear hfz7_12
    try clear hfz7_13
    try clear hfz7_14
    try clear hfz7_15
    try clear hfz7_16
    try clear hfz7_17
    try clear hfz7_18
    try clear hfz7_2
    try clear hfz7_3
    try clear hfz7_4
    try clear hfz7_5
    try clear hfz7_6
    try clear hfz7_7
    try clear hfz7_8
    try clear hfz7_9
    obtain ⟨x4_1, x5_1, x6_1, rfl, rfl, HA, HK1, HO_4, BK336, BK337, BK338, HB⟩ := hrel
    cases gk with
    | zero => (have HA2 := HA.out; clear HA; revert HA2; rw [refrainlaw5_plainest.l0_zero]; intro h_; cases h_)
    | succ k1 =>
      have H := HA.out
      clear HA
      simp only [refrainlaw5_plainest.l0] at H
      by_cases c8 : x6_1 < (a0_1.size : Int)
      · as_aux_lemma =>
        rw [if_pos c8] at H
        have c8b0 : decide (x6_1 < (a0_1.size : Int)) = true := decide_eq_true c8
        clear c8
        by_cases c9 : 0 ≤ x6_1
        · as_aux_lemma =>
          rw [if_pos c9] at H
          have c9b0 : decide (0 ≤ x6_1) = true := decide_eq_true c9
          clear c9
          by_cases c11 : (bt a0_1 x6_1) ≥ 97
          · as_aux_lemma =>
            rw [if_pos c11] at H
            have c11b0 : decide (97 ≤ (bt a0_1 x6_1)) = true := decide_eq_true c11
            clear c11
            by_cases c12 : (bt a0_1 x6_1) ≤ 122
            · as_aux_lemma =>
              rw [if_pos c12] at H
              have c12b0 : decide ((bt a0_1 x6_1) ≤ 122) = true := decide_eq_true c12
              clear c12
              by_cases c13 : x4_1.length < 140737488355328
              · as_aux_lemma =>
                rw [if_pos c13] at H
                have LMc13 := Aside0.mk c13
                clear c13
                obtain ⟨y339, hy339⟩ : ∃ y_ : List Int, y_ = (x4_1 ++ [bt a0_1 x6_1]) := ⟨_, rfl⟩
                replace H : (refrainlaw5_plainest.l0 k1 y339 (wrap64 (x5_1 + (wrap64 (bt a0_1 x6_1)))) (wrap64 (x6_1 + 1)) a0_0 a0_1 a0_2 (⟨#[40]⟩ : ByteArray) (⟨#[41]⟩ : ByteArray) (⟨#[91]⟩ : ByteArray) (⟨#[93]⟩ : ByteArray) (⟨#[123]⟩ : ByteArray) (⟨#[125]⟩ : ByteArray) (⟨#[44]⟩ : ByteArray) (⟨#[46]⟩ : ByteArray) (⟨#[46, 46]⟩ : ByteArray) (⟨#[43]⟩ : ByteArray) (⟨#[45]⟩ : ByteArray) (⟨#[42]⟩ : ByteArray) (⟨#[61]⟩ : ByteArray) (⟨#[33, 61]⟩ : ByteArray) (⟨#[60]⟩ : ByteArray) (⟨#[60, 61]⟩ : ByteArray) (⟨#[62]⟩ : ByteArray) (⟨#[62, 61]⟩ : ByteArray) (⟨#[33]⟩ : ByteArray)) = some (r1, r2, r3) := by first | (rw [hy339]; with_reducible exact H) | (have H2_ := (Option.bind_some _ _).symm.trans H; rw [hy339]; with_reducible exact H2_) | (have H2_ := (Option.bind_some _ _).symm.trans H; with_reducible exact H2_) | with_reducible exact H | (rw [hy339]; exact H) | exact H
                have Ny339 := Aside0.mk hy339
                clear hy339
                have H' := Aside0.mk H
                clear H; have hnb14 := NB336_337.out
                have hnc14 := NB337_336.out; have hnb15 := NB336_338.out; have hnc15 := NB338_336.out; have hcz16_0 : wr.cell? ⟨gb336, 0, none⟩ = some (.int .i64 a0_0) := (blk_cell BK336.out 0).trans rfl; have hcz16_1 : wr.cell? ⟨gb336, 1, none⟩ = some (.string a0_1) := (blk_cell BK336.out 1).trans rfl; have hcz16_2 : wr.cell? ⟨gb336, 2, none⟩ = some (.int .i64 a0_2) := (blk_cell BK336.out 2).trans rfl; have hfz16_0 := blk_frozen BK336.out 0; have hfz16_1 := blk_frozen BK336.out 1; have hfz16_2 := blk_frozen BK336.out 2
                have p10 : 0 ≤ (x6_1 : Int) := of_decide_eq_true (by first | (with_reducible assumption) | assumption)
                have q10 : x6_1 < (a0_1.size : Int) := of_decide_eq_true (by first | (with_reducible assumption) | assumption)
                have hx10 := bt_at a0_1 x6_1
                replace p10 := eq_true p10
                replace q10 := eq_true q10
                go_wp2_with (first | ((with_reducible refine gate_builtin (b := .append) (xs := #[.tmp 58, .tmp 60]) rfl ?_); (try (refine gate_guard (by rfl) ?_; dsimp only)); at_builtin; refine Kd.R_append (Kd.int .u8) (w0 := w) w.heap.size rfl (.tmp 58) (.tmp 60) 39 5 (.int .u8 0) 1 rfl Tryd.underlying39 info5 rfl (by decide) (by omega) u4 x4_1 (bt a0_1 x6_1) [.int .u8 (bt a0_1 x6_1)] (fun _ => True) (fun _ => False) rfl rfl ?aP (fun _ hk => hk.elim) ?aF ?aO ?aB ?aS ?aL ?_; (case aP => exact rfl); (case aB => exact (hbT HB.out)); (case aF => exact (fun _ _ => trivial)); (case aO => exact (by (with_reducible repeat (first | apply Kd.R_alloc | apply Kd.R_drewN | apply Kd.R_drew)); exact HO_4.out)); (case aS => exact (below_size (hbT HB.out))); (case aL => have := LMc13.out; omega); intro v340 w17 ho hb hg hat; rw [← Ny339.out] at ho; have n0_ := Aside0.mk (blk_grown (g := gb336) (o := .cells #[.int .i64 a0_0, .string a0_1, .int .i64 a0_2] 44 (0, 0)) (bkT BK336.out) hg (Kd.R_ne HO_4.out BK336.out (by decide))); have n1_ := Aside0.mk (blk_grown (g := gb337) (o := .cells #[.int .i64 0, .string (⟨#[]⟩ : ByteArray), .int .i64 0] 44 (0, 0)) (bkT BK337.out) hg (Kd.R_ne HO_4.out BK337.out (by decide))); have n2_ := Aside0.mk (blk_grown (g := gb338) (o := .cells #[.string (⟨#[40]⟩ : ByteArray), .string (⟨#[41]⟩ : ByteArray), .string (⟨#[91]⟩ : ByteArray), .string (⟨#[93]⟩ : ByteArray), .string (⟨#[123]⟩ : ByteArray), .string (⟨#[125]⟩ : ByteArray), .string (⟨#[44]⟩ : ByteArray), .string (⟨#[46]⟩ : ByteArray), .string (⟨#[46, 46]⟩ : ByteArray), .string (⟨#[43]⟩ : ByteArray), .string (⟨#[45]⟩ : ByteArray), .string (⟨#[42]⟩ : ByteArray), .string (⟨#[61]⟩ : ByteArray), .string (⟨#[33, 61]⟩ : ByteArray), .string (⟨#[60]⟩ : ByteArray), .string (⟨#[60, 61]⟩ : ByteArray), .string (⟨#[62]⟩ : ByteArray), .string (⟨#[62, 61]⟩ : ByteArray), .string (⟨#[33]⟩ : ByteArray)] 97 (0, 0)) (bkT BK338.out) hg (Kd.R_ne HO_4.out BK338.out (by decide))); have n3_ := Aside0.mk (hb); have n4_ := Aside0.mk (ho); clear BK336; clear BK337; clear BK338; clear HB; clear HO_4; have BK336 := n0_; have BK337 := n1_; have BK338 := n2_; have HB := n3_; have HO341 := n4_; clear n0_ n1_ n2_ n3_ n4_; clear ho hb hg hat))
                go_roundg k1
                case measure => have := HK1.out; omega
                case rel => exact ⟨(y339), (wrap64 (x5_1 + (wrap64 (bt a0_1 x6_1)))), (wrap64 (x6_1 + 1)), (by first | rfl | (simp; done) | (simp [*]; done) | (simp; unfold wrap64; omega) | (congr 1; (try rw [Bool.eq_iff_iff]); simp [List.isEmpty_iff]; done)), (by first | rfl | (simp; done) | (simp [*]; done) | (simp; unfold wrap64; omega) | (congr 1; (try rw [Bool.eq_iff_iff]); simp [List.isEmpty_iff]; done)), H', ⟨by have := HK1.out; omega⟩, ⟨by (with_reducible repeat (first | apply Kd.R_alloc | apply Kd.R_drewN | apply Kd.R_drew)); exact HO341.out⟩, ⟨bkT BK336.out⟩, ⟨bkT BK337.out⟩, ⟨bkT BK338.out⟩, ⟨hbT HB.out⟩⟩
              · as_aux_lemma =>
                rw [if_neg c13] at H
                exact absurd H (by simp)
            · as_aux_lemma =>
              rw [if_neg c12] at H
              have c12b0 : decide ((bt a0_1 x6_1) ≤ 122) = false := decide_eq_false c12
              clear c12
              by_cases c18 : (bt a0_1 x6_1) ≥ 65
              · as_aux_lemma =>
                rw [if_pos c18] at H
                have c18b0 : decide (65 ≤ (bt a0_1 x6_1)) = true := decide_eq_true c18
                clear c18
                by_cases c19 : (bt a0_1 x6_1) ≤ 90
                · as_aux_lemma =>
                  rw [if_pos c19] at H
                  have c19b0 : decide ((bt a0_1 x6_1) ≤ 90) = true := decide_eq_true c19
                  clear c19
                  by_cases c20 : x4_1.length < 140737488355328
                  · as_aux_lemma =>
                    rw [if_pos c20] at H
                    have LMc20 := Aside0.mk c20
                    clear c20
                    obtain ⟨y342, hy342⟩ : ∃ y_ : List Int, y_ = (x4_1 ++ [bt a0_1 x6_1]) := ⟨_, rfl⟩
                    replace H : (refrainlaw5_plainest.l0 k1 y342 (wrap64 (x5_1 + (wrap64 (bt a0_1 x6_1)))) (wrap64 (x6_1 + 1)) a0_0 a0_1 a0_2 (⟨#[40]⟩ : ByteArray) (⟨#[41]⟩ : ByteArray) (⟨#[91]⟩ : ByteArray) (⟨#[93]⟩ : ByteArray) (⟨#[123]⟩ : ByteArray) (⟨#[125]⟩ : ByteArray) (⟨#[44]⟩ : ByteArray) (⟨#[46]⟩ : ByteArray) (⟨#[46, 46]⟩ : ByteArray) (⟨#[43]⟩ : ByteArray) (⟨#[45]⟩ : ByteArray) (⟨#[42]⟩ : ByteArray) (⟨#[61]⟩ : ByteArray) (⟨#[33, 61]⟩ : ByteArray) (⟨#[60]⟩ : ByteArray) (⟨#[60, 61]⟩ : ByteArray) (⟨#[62]⟩ : ByteArray) (⟨#[62, 61]⟩ : ByteArray) (⟨#[33]⟩ : ByteArray)) = some (r1, r2, r3) := by first | (rw [hy342]; with_reducible exact H) | (have H2_ := (Option.bind_some _ _).symm.trans H; rw [hy342]; with_reducible exact H2_) | (have H2_ := (Option.bind_some _ _).symm.trans H; with_reducible exact H2_) | with_reducible exact H | (rw [hy342]; exact H) | exact H
                    have Ny342 := Aside0.mk hy342
                    clear hy342
                    have H' := Aside0.mk H
                    clear H; have hnb21 := NB336_337.out
                    have hnc21 := NB337_336.out; have hnb22 := NB336_338.out; have hnc22 := NB338_336.out; have hcz23_0 : wr.cell? ⟨gb336, 0, none⟩ = some (.int .i64 a0_0) := (blk_cell BK336.out 0).trans rfl; have hcz23_1 : wr.cell? ⟨gb336, 1, none⟩ = some (.string a0_1) := (blk_cell BK336.out 1).trans rfl; have hcz23_2 : wr.cell? ⟨gb336, 2, none⟩ = some (.int .i64 a0_2) := (blk_cell BK336.out 2).trans rfl; have hfz23_0 := blk_frozen BK336.out 0; have hfz23_1 := blk_frozen BK336.out 1; have hfz23_2 := blk_frozen BK336.out 2
                    have p10 : 0 ≤ (x6_1 : Int) := of_decide_eq_true (by first | (with_reducible assumption) | assumption)
                    have q10 : x6_1 < (a0_1.size : Int) := of_decide_eq_true (by first | (with_reducible assumption) | assumption)
                    have hx10 := bt_at a0_1 x6_1
                    replace p10 := eq_true p10
                    replace q10 := eq_true q10
                    go_wp2_with (first | ((with_reducible refine gate_builtin (b := .append) (xs := #[.tmp 58, .tmp 60]) rfl ?_); (try (refine gate_guard (by rfl) ?_; dsimp only)); at_builtin; refine Kd.R_append (Kd.int .u8) (w0 := w) w.heap.size rfl (.tmp 58) (.tmp 60) 39 5 (.int .u8 0) 1 rfl Tryd.underlying39 info5 rfl (by decide) (by omega) u4 x4_1 (bt a0_1 x6_1) [.int .u8 (bt a0_1 x6_1)] (fun _ => True) (fun _ => False) rfl rfl ?aP (fun _ hk => hk.elim) ?aF ?aO ?aB ?aS ?aL ?_; (case aP => exact rfl); (case aB => exact (hbT HB.out)); (case aF => exact (fun _ _ => trivial)); (case aO => exact (by (with_reducible repeat (first | apply Kd.R_alloc | apply Kd.R_drewN | apply Kd.R_drew)); exact HO_4.out)); (case aS => exact (below_size (hbT HB.out))); (case aL => have := LMc20.out; omega); intro v343 w24 ho hb hg hat; rw [← Ny342.out] at ho; have n0_ := Aside0.mk (blk_grown (g := gb336) (o := .cells #[.int .i64 a0_0, .string a0_1, .int .i64 a0_2] 44 (0, 0)) (bkT BK336.out) hg (Kd.R_ne HO_4.out BK336.out (by decide))); have n1_ := Aside0.mk (blk_grown (g := gb337) (o := .cells #[.int .i64 0, .string (⟨#[]⟩ : ByteArray), .int .i64 0] 44 (0, 0)) (bkT BK337.out) hg (Kd.R_ne HO_4.out BK337.out (by decide))); have n2_ := Aside0.mk (blk_grown (g := gb338) (o := .cells #[.string (⟨#[40]⟩ : ByteArray), .string (⟨#[41]⟩ : ByteArray), .string (⟨#[91]⟩ : ByteArray), .string (⟨#[93]⟩ : ByteArray), .string (⟨#[123]⟩ : ByteArray), .string (⟨#[125]⟩ : ByteArray), .string (⟨#[44]⟩ : ByteArray), .string (⟨#[46]⟩ : ByteArray), .string (⟨#[46, 46]⟩ : ByteArray), .string (⟨#[43]⟩ : ByteArray), .string (⟨#[45]⟩ : ByteArray), .string (⟨#[42]⟩ : ByteArray), .string (⟨#[61]⟩ : ByteArray), .string (⟨#[33, 61]⟩ : ByteArray), .string (⟨#[60]⟩ : ByteArray), .string (⟨#[60, 61]⟩ : ByteArray), .string (⟨#[62]⟩ : ByteArray), .string (⟨#[62, 61]⟩ : ByteArray), .string (⟨#[33]⟩ : ByteArray)] 97 (0, 0)) (bkT BK338.out) hg (Kd.R_ne HO_4.out BK338.out (by decide))); have n3_ := Aside0.mk (hb); have n4_ := Aside0.mk (ho); clear BK336; clear BK337; clear BK338; clear HB; clear HO_4; have BK336 := n0_; have BK337 := n1_; have BK338 := n2_; have HB := n3_; have HO344 := n4_; clear n0_ n1_ n2_ n3_ n4_; clear ho hb hg hat))
                    go_roundg k1
                    case measure => have := HK1.out; omega
                    case rel => exact ⟨(y342), (wrap64 (x5_1 + (wrap64 (bt a0_1 x6_1)))), (wrap64 (x6_1 + 1)), (by first | rfl | (simp; done) | (simp [*]; done) | (simp; unfold wrap64; omega) | (congr 1; (try rw [Bool.eq_iff_iff]); simp [List.isEmpty_iff]; done)), (by first | rfl | (simp; done) | (simp [*]; done) | (simp; unfold wrap64; omega) | (congr 1; (try rw [Bool.eq_iff_iff]); simp [List.isEmpty_iff]; done)), H', ⟨by have := HK1.out; omega⟩, ⟨by (with_reducible repeat (first | apply Kd.R_alloc | apply Kd.R_drewN | apply Kd.R_drew)); exact HO344.out⟩, ⟨bkT BK336.out⟩, ⟨bkT BK337.out⟩, ⟨bkT BK338.out⟩, ⟨hbT HB.out⟩⟩
                  · as_aux_lemma =>
                    rw [if_neg c20] at H
                    exact absurd H (by simp)
                · as_aux_lemma =>
                  rw [if_neg c19] at H
                  have c19b0 : decide ((bt a0_1 x6_1) ≤ 90) = false := decide_eq_false c19
                  clear c19
                  by_cases c25 : (bt a0_1 x6_1) = 95
                  · as_aux_lemma =>
                    rw [if_pos c25] at H
                    have c25b0 : ((bt a0_1 x6_1) == 95) = true := beq_iff_eq.mpr c25
                    have c25b1 : ((bt a0_1 x6_1) != 95) = false := bne_eq_false_iff_eq.mpr c25
                    clear c25
                    by_cases c26 : x4_1.length < 140737488355328
                    · as_aux_lemma =>
                      rw [if_pos c26] at H
                      have LMc26 := Aside0.mk c26
                      clear c26
                      obtain ⟨y345, hy345⟩ : ∃ y_ : List Int, y_ = (x4_1 ++ [bt a0_1 x6_1]) := ⟨_, rfl⟩
                      replace H : (refrainlaw5_plainest.l0 k1 y345 (wrap64 (x5_1 + (wrap64 (bt a0_1 x6_1)))) (wrap64 (x6_1 + 1)) a0_0 a0_1 a0_2 (⟨#[40]⟩ : ByteArray) (⟨#[41]⟩ : ByteArray) (⟨#[91]⟩ : ByteArray) (⟨#[93]⟩ : ByteArray) (⟨#[123]⟩ : ByteArray) (⟨#[125]⟩ : ByteArray) (⟨#[44]⟩ : ByteArray) (⟨#[46]⟩ : ByteArray) (⟨#[46, 46]⟩ : ByteArray) (⟨#[43]⟩ : ByteArray) (⟨#[45]⟩ : ByteArray) (⟨#[42]⟩ : ByteArray) (⟨#[61]⟩ : ByteArray) (⟨#[33, 61]⟩ : ByteArray) (⟨#[60]⟩ : ByteArray) (⟨#[60, 61]⟩ : ByteArray) (⟨#[62]⟩ : ByteArray) (⟨#[62, 61]⟩ : ByteArray) (⟨#[33]⟩ : ByteArray)) = some (r1, r2, r3) := by first | (rw [hy345]; with_reducible exact H) | (have H2_ := (Option.bind_some _ _).symm.trans H; rw [hy345]; with_reducible exact H2_) | (have H2_ := (Option.bind_some _ _).symm.trans H; with_reducible exact H2_) | with_reducible exact H | (rw [hy345]; exact H) | exact H
                      have Ny345 := Aside0.mk hy345
                      clear hy345
                      have H' := Aside0.mk H
                      clear H; have hnb27 := NB336_337.out
                      have hnc27 := NB337_336.out; have hnb28 := NB336_338.out; have hnc28 := NB338_336.out; have hcz29_0 : wr.cell? ⟨gb336, 0, none⟩ = some (.int .i64 a0_0) := (blk_cell BK336.out 0).trans rfl; have hcz29_1 : wr.cell? ⟨gb336, 1, none⟩ = some (.string a0_1) := (blk_cell BK336.out 1).trans rfl; have hcz29_2 : wr.cell? ⟨gb336, 2, none⟩ = some (.int .i64 a0_2) := (blk_cell BK336.out 2).trans rfl; have hfz29_0 := blk_frozen BK336.out 0; have hfz29_1 := blk_frozen BK336.out 1; have hfz29_2 := blk_frozen BK336.out 2
                      have p10 : 0 ≤ (x6_1 : Int) := of_decide_eq_true (by first | (with_reducible assumption) | assumption)
                      have q10 : x6_1 < (a0_1.size : Int) := of_decide_eq_true (by first | (with_reducible assumption) | assumption)
                      have hx10 := bt_at a0_1 x6_1
                      replace p10 := eq_true p10
                      replace q10 := eq_true q10
                      go_wp2_with (first | ((with_reducible refine gate_builtin (b := .append) (xs := #[.tmp 58, .tmp 60]) rfl ?_); (try (refine gate_guard (by rfl) ?_; dsimp only)); at_builtin; refine Kd.R_append (Kd.int .u8) (w0 := w) w.heap.size rfl (.tmp 58) (.tmp 60) 39 5 (.int .u8 0) 1 rfl Tryd.underlying39 info5 rfl (by decide) (by omega) u4 x4_1 (bt a0_1 x6_1) [.int .u8 (bt a0_1 x6_1)] (fun _ => True) (fun _ => False) rfl rfl ?aP (fun _ hk => hk.elim) ?aF ?aO ?aB ?aS ?aL ?_; (case aP => exact rfl); (case aB => exact (hbT HB.out)); (case aF => exact (fun _ _ => trivial)); (case aO => exact (by (with_reducible repeat (first | apply Kd.R_alloc | apply Kd.R_drewN | apply Kd.R_drew)); exact HO_4.out)); (case aS => exact (below_size (hbT HB.out))); (case aL => have := LMc26.out; omega); intro v346 w30 ho hb hg hat; rw [← Ny345.out] at ho; have n0_ := Aside0.mk (blk_grown (g := gb336) (o := .cells #[.int .i64 a0_0, .string a0_1, .int .i64 a0_2] 44 (0, 0)) (bkT BK336.out) hg (Kd.R_ne HO_4.out BK336.out (by decide))); have n1_ := Aside0.mk (blk_grown (g := gb337) (o := .cells #[.int .i64 0, .string (⟨#[]⟩ : ByteArray), .int .i64 0] 44 (0, 0)) (bkT BK337.out) hg (Kd.R_ne HO_4.out BK337.out (by decide))); have n2_ := Aside0.mk (blk_grown (g := gb338) (o := .cells #[.string (⟨#[40]⟩ : ByteArray), .string (⟨#[41]⟩ : ByteArray), .string (⟨#[91]⟩ : ByteArray), .string (⟨#[93]⟩ : ByteArray), .string (⟨#[123]⟩ : ByteArray), .string (⟨#[125]⟩ : ByteArray), .string (⟨#[44]⟩ : ByteArray), .string (⟨#[46]⟩ : ByteArray), .string (⟨#[46, 46]⟩ : ByteArray), .string (⟨#[43]⟩ : ByteArray), .string (⟨#[45]⟩ : ByteArray), .string (⟨#[42]⟩ : ByteArray), .string (⟨#[61]⟩ : ByteArray), .string (⟨#[33, 61]⟩ : ByteArray), .string (⟨#[60]⟩ : ByteArray), .string (⟨#[60, 61]⟩ : ByteArray), .string (⟨#[62]⟩ : ByteArray), .string (⟨#[62, 61]⟩ : ByteArray), .string (⟨#[33]⟩ : ByteArray)] 97 (0, 0)) (bkT BK338.out) hg (Kd.R_ne HO_4.out BK338.out (by decide))); have n3_ := Aside0.mk (hb); have n4_ := Aside0.mk (ho); clear BK336; clear BK337; clear BK338; clear HB; clear HO_4; have BK336 := n0_; have BK337 := n1_; have BK338 := n2_; have HB := n3_; have HO347 := n4_; clear n0_ n1_ n2_ n3_ n4_; clear ho hb hg hat))
                      go_roundg k1
                      case measure => have := HK1.out; omega
                      case rel => exact ⟨(y345), (wrap64 (x5_1 + (wrap64 (bt a0_1 x6_1)))), (wrap64 (x6_1 + 1)), (by first | rfl | (simp; done) | (simp [*]; done) | (simp; unfold wrap64; omega) | (congr 1; (try rw [Bool.eq_iff_iff]); simp [List.isEmpty_iff]; done)), (by first | rfl | (simp; done) | (simp [*]; done) | (simp; unfold wrap64; omega) | (congr 1; (try rw [Bool.eq_iff_iff]); simp [List.isEmpty_iff]; done)), H', ⟨by have := HK1.out; omega⟩, ⟨by (with_reducible repeat (first | apply Kd.R_alloc | apply Kd.R_drewN | apply Kd.R_drew)); exact HO347.out⟩, ⟨bkT BK336.out⟩, ⟨bkT BK337.out⟩, ⟨bkT BK338.out⟩, ⟨hbT HB.out⟩⟩
                    · as_aux_lemma =>
                      rw [if_neg c26] at H
                      exact absurd H (by simp)
                  · as_aux_lemma =>
                    rw [if_neg c25] at H
                    have c25b0 : ((bt a0_1 x6_1) == 95) = false := beq_eq_false_iff_ne.mpr c25
                    have c25b1 : ((bt a0_1 x6_1) != 95) = true := bne_iff_ne.mpr c25
                    by_cases c31 : (bt a0_1 x6_1) ≥ 48
                    · as_aux_lemma =>
                      rw [if_pos c31] at H
                      have c31b0 : decide (48 ≤ (bt a0_1 x6_1)) = true := decide_eq_true c31
                      clear c31
                      by_cases c32 : (bt a0_1 x6_1) ≤ 57
                      · as_aux_lemma =>
                        rw [if_pos c32] at H
                        have c32b0 : decide ((bt a0_1 x6_1) ≤ 57) = true := decide_eq_true c32
                        clear c32
                        by_cases c33 : (x4_1.length : Int) > 0
                        · as_aux_lemma =>
                          rw [if_pos c33] at H
                          have c33b0 : decide (0 < (x4_1.length : Int)) = true := decide_eq_true c33
                          have c33b1 : decide (0 < x4_1.length) = true := decide_eq_true (by omega)
                          clear c33
                          by_cases c34 : x4_1.length < 140737488355328
                          · as_aux_lemma =>
                            rw [if_pos c34] at H
                            have LMc34 := Aside0.mk c34
                            clear c34
                            obtain ⟨y348, hy348⟩ : ∃ y_ : List Int, y_ = (x4_1 ++ [bt a0_1 x6_1]) := ⟨_, rfl⟩
                            replace H : (refrainlaw5_plainest.l0 k1 y348 (wrap64 (x5_1 + (wrap64 (bt a0_1 x6_1)))) (wrap64 (x6_1 + 1)) a0_0 a0_1 a0_2 (⟨#[40]⟩ : ByteArray) (⟨#[41]⟩ : ByteArray) (⟨#[91]⟩ : ByteArray) (⟨#[93]⟩ : ByteArray) (⟨#[123]⟩ : ByteArray) (⟨#[125]⟩ : ByteArray) (⟨#[44]⟩ : ByteArray) (⟨#[46]⟩ : ByteArray) (⟨#[46, 46]⟩ : ByteArray) (⟨#[43]⟩ : ByteArray) (⟨#[45]⟩ : ByteArray) (⟨#[42]⟩ : ByteArray) (⟨#[61]⟩ : ByteArray) (⟨#[33, 61]⟩ : ByteArray) (⟨#[60]⟩ : ByteArray) (⟨#[60, 61]⟩ : ByteArray) (⟨#[62]⟩ : ByteArray) (⟨#[62, 61]⟩ : ByteArray) (⟨#[33]⟩ : ByteArray)) = some (r1, r2, r3) := by first | (rw [hy348]; with_reducible exact H) | (have H2_ := (Option.bind_some _ _).symm.trans H; rw [hy348]; with_reducible exact H2_) | (have H2_ := (Option.bind_some _ _).symm.trans H; with_reducible exact H2_) | with_reducible exact H | (rw [hy348]; exact H) | exact H
                            have Ny348 := Aside0.mk hy348
                            clear hy348
                            have H' := Aside0.mk H
                            clear H; have hnb35 := NB336_337.out
                            have hnc35 := NB337_336.out; have hnb36 := NB336_338.out; have hnc36 := NB338_336.out; have hcz37_0 : wr.cell? ⟨gb336, 0, none⟩ = some (.int .i64 a0_0) := (blk_cell BK336.out 0).trans rfl; have hcz37_1 : wr.cell? ⟨gb336, 1, none⟩ = some (.string a0_1) := (blk_cell BK336.out 1).trans rfl; have hcz37_2 : wr.cell? ⟨gb336, 2, none⟩ = some (.int .i64 a0_2) := (blk_cell BK336.out 2).trans rfl; have hfz37_0 := blk_frozen BK336.out 0; have hfz37_1 := blk_frozen BK336.out 1; have hfz37_2 := blk_frozen BK336.out 2
                            have p10 : 0 ≤ (x6_1 : Int) := of_decide_eq_true (by first | (with_reducible assumption) | assumption)
                            have q10 : x6_1 < (a0_1.size : Int) := of_decide_eq_true (by first | (with_reducible assumption) | assumption)
                            have hx10 := bt_at a0_1 x6_1
                            replace p10 := eq_true p10
                            replace q10 := eq_true q10
                            obtain ⟨Ao38, co38, eo38⟩ := Kd.R_slice HO_4.out
                            subst eo38
                            go_wp2_with (first | ((with_reducible refine gate_builtin (b := .append) (xs := #[.tmp 58, .tmp 60]) rfl ?_); (try (refine gate_guard (by rfl) ?_; dsimp only)); at_builtin; refine Kd.R_append (Kd.int .u8) (w0 := w) w.heap.size rfl (.tmp 58) (.tmp 60) 39 5 (.int .u8 0) 1 rfl Tryd.underlying39 info5 rfl (by decide) (by omega) (.slice Ao38 x4_1.length co38) x4_1 (bt a0_1 x6_1) [.int .u8 (bt a0_1 x6_1)] (fun _ => True) (fun _ => False) rfl rfl ?aP (fun _ hk => hk.elim) ?aF ?aO ?aB ?aS ?aL ?_; (case aP => exact rfl); (case aB => exact (hbT HB.out)); (case aF => exact (fun _ _ => trivial)); (case aO => exact (by (with_reducible repeat (first | apply Kd.R_alloc | apply Kd.R_drewN | apply Kd.R_drew)); exact HO_4.out)); (case aS => exact (below_size (hbT HB.out))); (case aL => have := LMc34.out; omega); intro v349 w39 ho hb hg hat; rw [← Ny348.out] at ho; have n0_ := Aside0.mk (blk_grown (g := gb336) (o := .cells #[.int .i64 a0_0, .string a0_1, .int .i64 a0_2] 44 (0, 0)) (bkT BK336.out) hg (Kd.R_ne HO_4.out BK336.out (by decide))); have n1_ := Aside0.mk (blk_grown (g := gb337) (o := .cells #[.int .i64 0, .string (⟨#[]⟩ : ByteArray), .int .i64 0] 44 (0, 0)) (bkT BK337.out) hg (Kd.R_ne HO_4.out BK337.out (by decide))); have n2_ := Aside0.mk (blk_grown (g := gb338) (o := .cells #[.string (⟨#[40]⟩ : ByteArray), .string (⟨#[41]⟩ : ByteArray), .string (⟨#[91]⟩ : ByteArray), .string (⟨#[93]⟩ : ByteArray), .string (⟨#[123]⟩ : ByteArray), .string (⟨#[125]⟩ : ByteArray), .string (⟨#[44]⟩ : ByteArray), .string (⟨#[46]⟩ : ByteArray), .string (⟨#[46, 46]⟩ : ByteArray), .string (⟨#[43]⟩ : ByteArray), .string (⟨#[45]⟩ : ByteArray), .string (⟨#[42]⟩ : ByteArray), .string (⟨#[61]⟩ : ByteArray), .string (⟨#[33, 61]⟩ : ByteArray), .string (⟨#[60]⟩ : ByteArray), .string (⟨#[60, 61]⟩ : ByteArray), .string (⟨#[62]⟩ : ByteArray), .string (⟨#[62, 61]⟩ : ByteArray), .string (⟨#[33]⟩ : ByteArray)] 97 (0, 0)) (bkT BK338.out) hg (Kd.R_ne HO_4.out BK338.out (by decide))); have n3_ := Aside0.mk (hb); have n4_ := Aside0.mk (ho); clear BK336; clear BK337; clear BK338; clear HB; clear HO_4; have BK336 := n0_; have BK337 := n1_; have BK338 := n2_; have HB := n3_; have HO350 := n4_; clear n0_ n1_ n2_ n3_ n4_; clear ho hb hg hat))
                            go_roundg k1
                            case measure => have := HK1.out; omega
                            case rel => exact ⟨(y348), (wrap64 (x5_1 + (wrap64 (bt a0_1 x6_1)))), (wrap64 (x6_1 + 1)), (by first | rfl | (simp; done) | (simp [*]; done) | (simp; unfold wrap64; omega) | (congr 1; (try rw [Bool.eq_iff_iff]); simp [List.isEmpty_iff]; done)), (by first | rfl | (simp; done) | (simp [*]; done) | (simp; unfold wrap64; omega) | (congr 1; (try rw [Bool.eq_iff_iff]); simp [List.isEmpty_iff]; done)), H', ⟨by have := HK1.out; omega⟩, ⟨by (with_reducible repeat (first | apply Kd.R_alloc | apply Kd.R_drewN | apply Kd.R_drew)); exact HO350.out⟩, ⟨bkT BK336.out⟩, ⟨bkT BK337.out⟩, ⟨bkT BK338.out⟩, ⟨hbT HB.out⟩⟩
                          · as_aux_lemma =>
                            rw [if_neg c34] at H
                            exact absurd H (by simp)
                        · as_aux_lemma =>
                          rw [if_neg c33] at H
                          have c33b0 : decide (0 < (x4_1.length : Int)) = false := decide_eq_false c33
                          have c33b1 : decide (0 < x4_1.length) = false := decide_eq_false (by omega)
                          clear c33
                          have H' := Aside0.mk H
                          clear H; have hnb40 := NB336_337.out
                          have hnc40 := NB337_336.out; have hnb41 := NB336_338.out; have hnc41 := NB338_336.out; have hcz42_0 : wr.cell? ⟨gb336, 0, none⟩ = some (.int .i64 a0_0) := (blk_cell BK336.out 0).trans rfl; have hcz42_1 : wr.cell? ⟨gb336, 1, none⟩ = some (.string a0_1) := (blk_cell BK336.out 1).trans rfl; have hcz42_2 : wr.cell? ⟨gb336, 2, none⟩ = some (.int .i64 a0_2) := (blk_cell BK336.out 2).trans rfl; have hfz42_0 := blk_frozen BK336.out 0; have hfz42_1 := blk_frozen BK336.out 1; have hfz42_2 := blk_frozen BK336.out 2
                          have p10 : 0 ≤ (x6_1 : Int) := of_decide_eq_true (by first | (with_reducible assumption) | assumption)
                          have q10 : x6_1 < (a0_1.size : Int) := of_decide_eq_true (by first | (with_reducible assumption) | assumption)
                          have hx10 := bt_at a0_1 x6_1
                          replace p10 := eq_true p10
                          replace q10 := eq_true q10
                          obtain ⟨Ao43, co43, eo43⟩ := Kd.R_slice HO_4.out
                          subst eo43
                          go_wp2
                          go_roundg k1
                          case measure => have := HK1.out; omega
                          case rel => exact ⟨(x4_1), (wrap64 (x5_1 + (wrap64 (bt a0_1 x6_1)))), (wrap64 (x6_1 + 1)), (by first | rfl | (simp; done) | (simp [*]; done) | (simp; unfold wrap64; omega) | (congr 1; (try rw [Bool.eq_iff_iff]); simp [List.isEmpty_iff]; done)), (by first | rfl | (simp; done) | (simp [*]; done) | (simp; unfold wrap64; omega) | (congr 1; (try rw [Bool.eq_iff_iff]); simp [List.isEmpty_iff]; done)), H', ⟨by have := HK1.out; omega⟩, ⟨by (with_reducible repeat (first | apply Kd.R_alloc | apply Kd.R_drewN | apply Kd.R_drew)); exact HO_4.out⟩, ⟨bkT BK336.out⟩, ⟨bkT BK337.out⟩, ⟨bkT BK338.out⟩, ⟨hbT HB.out⟩⟩
                      · as_aux_lemma =>
                        rw [if_neg c32] at H
                        have c32b0 : decide ((bt a0_1 x6_1) ≤ 57) = false := decide_eq_false c32
                        clear c32
                        have H' := Aside0.mk H
                        clear H; have hnb44 := NB336_337.out
                        have hnc44 := NB337_336.out; have hnb45 := NB336_338.out; have hnc45 := NB338_336.out; have hcz46_0 : wr.cell? ⟨gb336, 0, none⟩ = some (.int .i64 a0_0) := (blk_cell BK336.out 0).trans rfl; have hcz46_1 : wr.cell? ⟨gb336, 1, none⟩ = some (.string a0_1) := (blk_cell BK336.out 1).trans rfl; have hcz46_2 : wr.cell? ⟨gb336, 2, none⟩ = some (.int .i64 a0_2) := (blk_cell BK336.out 2).trans rfl; have hfz46_0 := blk_frozen BK336.out 0; have hfz46_1 := blk_frozen BK336.out 1; have hfz46_2 := blk_frozen BK336.out 2
                        have p10 : 0 ≤ (x6_1 : Int) := of_decide_eq_true (by first | (with_reducible assumption) | assumption)
                        have q10 : x6_1 < (a0_1.size : Int) := of_decide_eq_true (by first | (with_reducible assumption) | assumption)
                        have hx10 := bt_at a0_1 x6_1
                        replace p10 := eq_true p10
                        replace q10 := eq_true q10
                        go_wp2
                        go_roundg k1
                        case measure => have := HK1.out; omega
                        case rel => exact ⟨(x4_1), (wrap64 (x5_1 + (wrap64 (bt a0_1 x6_1)))), (wrap64 (x6_1 + 1)), (by first | rfl | (simp; done) | (simp [*]; done) | (simp; unfold wrap64; omega) | (congr 1; (try rw [Bool.eq_iff_iff]); simp [List.isEmpty_iff]; done)), (by first | rfl | (simp; done) | (simp [*]; done) | (simp; unfold wrap64; omega) | (congr 1; (try rw [Bool.eq_iff_iff]); simp [List.isEmpty_iff]; done)), H', ⟨by have := HK1.out; omega⟩, ⟨by (with_reducible repeat (first | apply Kd.R_alloc | apply Kd.R_drewN | apply Kd.R_drew)); exact HO_4.out⟩, ⟨bkT BK336.out⟩, ⟨bkT BK337.out⟩, ⟨bkT BK338.out⟩, ⟨hbT HB.out⟩⟩
                    · as_aux_lemma =>
                      rw [if_neg c31] at H
                      have c31b0 : decide (48 ≤ (bt a0_1 x6_1)) = false := decide_eq_false c31
                      clear c31
                      have H' := Aside0.mk H
                      clear H; have hnb47 := NB336_337.out
                      have hnc47 := NB337_336.out; have hnb48 := NB336_338.out; have hnc48 := NB338_336.out; have hcz49_0 : wr.cell? ⟨gb336, 0, none⟩ = some (.int .i64 a0_0) := (blk_cell BK336.out 0).trans rfl; have hcz49_1 : wr.cell? ⟨gb336, 1, none⟩ = some (.string a0_1) := (blk_cell BK336.out 1).trans rfl; have hcz49_2 : wr.cell? ⟨gb336, 2, none⟩ = some (.int .i64 a0_2) := (blk_cell BK336.out 2).trans rfl; have hfz49_0 := blk_frozen BK336.out 0; have hfz49_1 := blk_frozen BK336.out 1; have hfz49_2 := blk_frozen BK336.out 2
                      have p10 : 0 ≤ (x6_1 : Int) := of_decide_eq_true (by first | (with_reducible assumption) | assumption)
                      have q10 : x6_1 < (a0_1.size : Int) := of_decide_eq_true (by first | (with_reducible assumption) | assumption)
                      have hx10 := bt_at a0_1 x6_1
                      replace p10 := eq_true p10
                      replace q10 := eq_true q10
                      go_wp2
                      go_roundg k1
                      case measure => have := HK1.out; omega
                      case rel => exact ⟨(x4_1), (wrap64 (x5_1 + (wrap64 (bt a0_1 x6_1)))), (wrap64 (x6_1 + 1)), (by first | rfl | (simp; done) | (simp [*]; done) | (simp; unfold wrap64; omega) | (congr 1; (try rw [Bool.eq_iff_iff]); simp [List.isEmpty_iff]; done)), (by first | rfl | (simp; done) | (simp [*]; done) | (simp; unfold wrap64; omega) | (congr 1; (try rw [Bool.eq_iff_iff]); simp [List.isEmpty_iff]; done)), H', ⟨by have := HK1.out; omega⟩, ⟨by (with_reducible repeat (first | apply Kd.R_alloc | apply Kd.R_drewN | apply Kd.R_drew)); exact HO_4.out⟩, ⟨bkT BK336.out⟩, ⟨bkT BK337.out⟩, ⟨bkT BK338.out⟩, ⟨hbT HB.out⟩⟩
              · as_aux_lemma =>
                rw [if_neg c18] at H
                have c18b0 : decide (65 ≤ (bt a0_1 x6_1)) = false := decide_eq_false c18
                clear c18
                by_cases c50 : (bt a0_1 x6_1) = 95
                · as_aux_lemma =>
                  rw [if_pos c50] at H
                  have c50b0 : ((bt a0_1 x6_1) == 95) = true := beq_iff_eq.mpr c50
                  have c50b1 : ((bt a0_1 x6_1) != 95) = false := bne_eq_false_iff_eq.mpr c50
                  clear c50
                  by_cases c51 : x4_1.length < 140737488355328
                  · as_aux_lemma =>
                    rw [if_pos c51] at H
                    have LMc51 := Aside0.mk c51
                    clear c51
                    obtain ⟨y351, hy351⟩ : ∃ y_ : List Int, y_ = (x4_1 ++ [bt a0_1 x6_1]) := ⟨_, rfl⟩
                    replace H : (refrainlaw5_plainest.l0 k1 y351 (wrap64 (x5_1 + (wrap64 (bt a0_1 x6_1)))) (wrap64 (x6_1 + 1)) a0_0 a0_1 a0_2 (⟨#[40]⟩ : ByteArray) (⟨#[41]⟩ : ByteArray) (⟨#[91]⟩ : ByteArray) (⟨#[93]⟩ : ByteArray) (⟨#[123]⟩ : ByteArray) (⟨#[125]⟩ : ByteArray) (⟨#[44]⟩ : ByteArray) (⟨#[46]⟩ : ByteArray) (⟨#[46, 46]⟩ : ByteArray) (⟨#[43]⟩ : ByteArray) (⟨#[45]⟩ : ByteArray) (⟨#[42]⟩ : ByteArray) (⟨#[61]⟩ : ByteArray) (⟨#[33, 61]⟩ : ByteArray) (⟨#[60]⟩ : ByteArray) (⟨#[60, 61]⟩ : ByteArray) (⟨#[62]⟩ : ByteArray) (⟨#[62, 61]⟩ : ByteArray) (⟨#[33]⟩ : ByteArray)) = some (r1, r2, r3) := by first | (rw [hy351]; with_reducible exact H) | (have H2_ := (Option.bind_some _ _).symm.trans H; rw [hy351]; with_reducible exact H2_) | (have H2_ := (Option.bind_some _ _).symm.trans H; with_reducible exact H2_) | with_reducible exact H | (rw [hy351]; exact H) | exact H
                    have Ny351 := Aside0.mk hy351
                    clear hy351
                    have H' := Aside0.mk H
                    clear H; have hnb52 := NB336_337.out
                    have hnc52 := NB337_336.out; have hnb53 := NB336_338.out; have hnc53 := NB338_336.out; have hcz54_0 : wr.cell? ⟨gb336, 0, none⟩ = some (.int .i64 a0_0) := (blk_cell BK336.out 0).trans rfl; have hcz54_1 : wr.cell? ⟨gb336, 1, none⟩ = some (.string a0_1) := (blk_cell BK336.out 1).trans rfl; have hcz54_2 : wr.cell? ⟨gb336, 2, none⟩ = some (.int .i64 a0_2) := (blk_cell BK336.out 2).trans rfl; have hfz54_0 := blk_frozen BK336.out 0; have hfz54_1 := blk_frozen BK336.out 1; have hfz54_2 := blk_frozen BK336.out 2
                    have p10 : 0 ≤ (x6_1 : Int) := of_decide_eq_true (by first | (with_reducible assumption) | assumption)
                    have q10 : x6_1 < (a0_1.size : Int) := of_decide_eq_true (by first | (with_reducible assumption) | assumption)
                    have hx10 := bt_at a0_1 x6_1
                    replace p10 := eq_true p10
                    replace q10 := eq_true q10
                    go_wp2_with (first | ((with_reducible refine gate_builtin (b := .append) (xs := #[.tmp 58, .tmp 60]) rfl ?_); (try (refine gate_guard (by rfl) ?_; dsimp only)); at_builtin; refine Kd.R_append (Kd.int .u8) (w0 := w) w.heap.size rfl (.tmp 58) (.tmp 60) 39 5 (.int .u8 0) 1 rfl Tryd.underlying39 info5 rfl (by decide) (by omega) u4 x4_1 (bt a0_1 x6_1) [.int .u8 (bt a0_1 x6_1)] (fun _ => True) (fun _ => False) rfl rfl ?aP (fun _ hk => hk.elim) ?aF ?aO ?aB ?aS ?aL ?_; (case aP => exact rfl); (case aB => exact (hbT HB.out)); (case aF => exact (fun _ _ => trivial)); (case aO => exact (by (with_reducible repeat (first | apply Kd.R_alloc | apply Kd.R_drewN | apply Kd.R_drew)); exact HO_4.out)); (case aS => exact (below_size (hbT HB.out))); (case aL => have := LMc51.out; omega); intro v352 w55 ho hb hg hat; rw [← Ny351.out] at ho; have n0_ := Aside0.mk (blk_grown (g := gb336) (o := .cells #[.int .i64 a0_0, .string a0_1, .int .i64 a0_2] 44 (0, 0)) (bkT BK336.out) hg (Kd.R_ne HO_4.out BK336.out (by decide))); have n1_ := Aside0.mk (blk_grown (g := gb337) (o := .cells #[.int .i64 0, .string (⟨#[]⟩ : ByteArray), .int .i64 0] 44 (0, 0)) (bkT BK337.out) hg (Kd.R_ne HO_4.out BK337.out (by decide))); have n2_ := Aside0.mk (blk_grown (g := gb338) (o := .cells #[.string (⟨#[40]⟩ : ByteArray), .string (⟨#[41]⟩ : ByteArray), .string (⟨#[91]⟩ : ByteArray), .string (⟨#[93]⟩ : ByteArray), .string (⟨#[123]⟩ : ByteArray), .string (⟨#[125]⟩ : ByteArray), .string (⟨#[44]⟩ : ByteArray), .string (⟨#[46]⟩ : ByteArray), .string (⟨#[46, 46]⟩ : ByteArray), .string (⟨#[43]⟩ : ByteArray), .string (⟨#[45]⟩ : ByteArray), .string (⟨#[42]⟩ : ByteArray), .string (⟨#[61]⟩ : ByteArray), .string (⟨#[33, 61]⟩ : ByteArray), .string (⟨#[60]⟩ : ByteArray), .string (⟨#[60, 61]⟩ : ByteArray), .string (⟨#[62]⟩ : ByteArray), .string (⟨#[62, 61]⟩ : ByteArray), .string (⟨#[33]⟩ : ByteArray)] 97 (0, 0)) (bkT BK338.out) hg (Kd.R_ne HO_4.out BK338.out (by decide))); have n3_ := Aside0.mk (hb); have n4_ := Aside0.mk (ho); clear BK336; clear BK337; clear BK338; clear HB; clear HO_4; have BK336 := n0_; have BK337 := n1_; have BK338 := n2_; have HB := n3_; have HO353 := n4_; clear n0_ n1_ n2_ n3_ n4_; clear ho hb hg hat))
                    go_roundg k1
                    case measure => have := HK1.out; omega
                    case rel => exact ⟨(y351), (wrap64 (x5_1 + (wrap64 (bt a0_1 x6_1)))), (wrap64 (x6_1 + 1)), (by first | rfl | (simp; done) | (simp [*]; done) | (simp; unfold wrap64; omega) | (congr 1; (try rw [Bool.eq_iff_iff]); simp [List.isEmpty_iff]; done)), (by first | rfl | (simp; done) | (simp [*]; done) | (simp; unfold wrap64; omega) | (congr 1; (try rw [Bool.eq_iff_iff]); simp [List.isEmpty_iff]; done)), H', ⟨by have := HK1.out; omega⟩, ⟨by (with_reducible repeat (first | apply Kd.R_alloc | apply Kd.R_drewN | apply Kd.R_drew)); exact HO353.out⟩, ⟨bkT BK336.out⟩, ⟨bkT BK337.out⟩, ⟨bkT BK338.out⟩, ⟨hbT HB.out⟩⟩
                  · as_aux_lemma =>
                    rw [if_neg c51] at H
                    exact absurd H (by simp)
                · as_aux_lemma =>
                  rw [if_neg c50] at H
                  have c50b0 : ((bt a0_1 x6_1) == 95) = false := beq_eq_false_iff_ne.mpr c50
                  have c50b1 : ((bt a0_1 x6_1) != 95) = true := bne_iff_ne.mpr c50
                  by_cases c56 : (bt a0_1 x6_1) ≥ 48
                  · as_aux_lemma =>
                    rw [if_pos c56] at H
                    have c56b0 : decide (48 ≤ (bt a0_1 x6_1)) = true := decide_eq_true c56
                    clear c56
                    by_cases c57 : (bt a0_1 x6_1) ≤ 57
                    · as_aux_lemma =>
                      rw [if_pos c57] at H
                      have c57b0 : decide ((bt a0_1 x6_1) ≤ 57) = true := decide_eq_true c57
                      clear c57
                      by_cases c58 : (x4_1.length : Int) > 0
                      · as_aux_lemma =>
                        rw [if_pos c58] at H
                        have c58b0 : decide (0 < (x4_1.length : Int)) = true := decide_eq_true c58
                        have c58b1 : decide (0 < x4_1.length) = true := decide_eq_true (by omega)
                        clear c58
                        by_cases c59 : x4_1.length < 140737488355328
                        · as_aux_lemma =>
                          rw [if_pos c59] at H
                          have LMc59 := Aside0.mk c59
                          clear c59
                          obtain ⟨y354, hy354⟩ : ∃ y_ : List Int, y_ = (x4_1 ++ [bt a0_1 x6_1]) := ⟨_, rfl⟩
                          replace H : (refrainlaw5_plainest.l0 k1 y354 (wrap64 (x5_1 + (wrap64 (bt a0_1 x6_1)))) (wrap64 (x6_1 + 1)) a0_0 a0_1 a0_2 (⟨#[40]⟩ : ByteArray) (⟨#[41]⟩ : ByteArray) (⟨#[91]⟩ : ByteArray) (⟨#[93]⟩ : ByteArray) (⟨#[123]⟩ : ByteArray) (⟨#[125]⟩ : ByteArray) (⟨#[44]⟩ : ByteArray) (⟨#[46]⟩ : ByteArray) (⟨#[46, 46]⟩ : ByteArray) (⟨#[43]⟩ : ByteArray) (⟨#[45]⟩ : ByteArray) (⟨#[42]⟩ : ByteArray) (⟨#[61]⟩ : ByteArray) (⟨#[33, 61]⟩ : ByteArray) (⟨#[60]⟩ : ByteArray) (⟨#[60, 61]⟩ : ByteArray) (⟨#[62]⟩ : ByteArray) (⟨#[62, 61]⟩ : ByteArray) (⟨#[33]⟩ : ByteArray)) = some (r1, r2, r3) := by first | (rw [hy354]; with_reducible exact H) | (have H2_ := (Option.bind_some _ _).symm.trans H; rw [hy354]; with_reducible exact H2_) | (have H2_ := (Option.bind_some _ _).symm.trans H; with_reducible exact H2_) | with_reducible exact H | (rw [hy354]; exact H) | exact H
                          have Ny354 := Aside0.mk hy354
                          clear hy354
                          have H' := Aside0.mk H
                          clear H; have hnb60 := NB336_337.out
                          have hnc60 := NB337_336.out; have hnb61 := NB336_338.out; have hnc61 := NB338_336.out; have hcz62_0 : wr.cell? ⟨gb336, 0, none⟩ = some (.int .i64 a0_0) := (blk_cell BK336.out 0).trans rfl; have hcz62_1 : wr.cell? ⟨gb336, 1, none⟩ = some (.string a0_1) := (blk_cell BK336.out 1).trans rfl; have hcz62_2 : wr.cell? ⟨gb336, 2, none⟩ = some (.int .i64 a0_2) := (blk_cell BK336.out 2).trans rfl; have hfz62_0 := blk_frozen BK336.out 0; have hfz62_1 := blk_frozen BK336.out 1; have hfz62_2 := blk_frozen BK336.out 2
                          have p10 : 0 ≤ (x6_1 : Int) := of_decide_eq_true (by first | (with_reducible assumption) | assumption)
                          have q10 : x6_1 < (a0_1.size : Int) := of_decide_eq_true (by first | (with_reducible assumption) | assumption)
                          have hx10 := bt_at a0_1 x6_1
                          replace p10 := eq_true p10
                          replace q10 := eq_true q10
                          obtain ⟨Ao63, co63, eo63⟩ := Kd.R_slice HO_4.out
                          subst eo63
                          go_wp2_with (first | ((with_reducible refine gate_builtin (b := .append) (xs := #[.tmp 58, .tmp 60]) rfl ?_); (try (refine gate_guard (by rfl) ?_; dsimp only)); at_builtin; refine Kd.R_append (Kd.int .u8) (w0 := w) w.heap.size rfl (.tmp 58) (.tmp 60) 39 5 (.int .u8 0) 1 rfl Tryd.underlying39 info5 rfl (by decide) (by omega) (.slice Ao63 x4_1.length co63) x4_1 (bt a0_1 x6_1) [.int .u8 (bt a0_1 x6_1)] (fun _ => True) (fun _ => False) rfl rfl ?aP (fun _ hk => hk.elim) ?aF ?aO ?aB ?aS ?aL ?_; (case aP => exact rfl); (case aB => exact (hbT HB.out)); (case aF => exact (fun _ _ => trivial)); (case aO => exact (by (with_reducible repeat (first | apply Kd.R_alloc | apply Kd.R_drewN | apply Kd.R_drew)); exact HO_4.out)); (case aS => exact (below_size (hbT HB.out))); (case aL => have := LMc59.out; omega); intro v355 w64 ho hb hg hat; rw [← Ny354.out] at ho; have n0_ := Aside0.mk (blk_grown (g := gb336) (o := .cells #[.int .i64 a0_0, .string a0_1, .int .i64 a0_2] 44 (0, 0)) (bkT BK336.out) hg (Kd.R_ne HO_4.out BK336.out (by decide))); have n1_ := Aside0.mk (blk_grown (g := gb337) (o := .cells #[.int .i64 0, .string (⟨#[]⟩ : ByteArray), .int .i64 0] 44 (0, 0)) (bkT BK337.out) hg (Kd.R_ne HO_4.out BK337.out (by decide))); have n2_ := Aside0.mk (blk_grown (g := gb338) (o := .cells #[.string (⟨#[40]⟩ : ByteArray), .string (⟨#[41]⟩ : ByteArray), .string (⟨#[91]⟩ : ByteArray), .string (⟨#[93]⟩ : ByteArray), .string (⟨#[123]⟩ : ByteArray), .string (⟨#[125]⟩ : ByteArray), .string (⟨#[44]⟩ : ByteArray), .string (⟨#[46]⟩ : ByteArray), .string (⟨#[46, 46]⟩ : ByteArray), .string (⟨#[43]⟩ : ByteArray), .string (⟨#[45]⟩ : ByteArray), .string (⟨#[42]⟩ : ByteArray), .string (⟨#[61]⟩ : ByteArray), .string (⟨#[33, 61]⟩ : ByteArray), .string (⟨#[60]⟩ : ByteArray), .string (⟨#[60, 61]⟩ : ByteArray), .string (⟨#[62]⟩ : ByteArray), .string (⟨#[62, 61]⟩ : ByteArray), .string (⟨#[33]⟩ : ByteArray)] 97 (0, 0)) (bkT BK338.out) hg (Kd.R_ne HO_4.out BK338.out (by decide))); have n3_ := Aside0.mk (hb); have n4_ := Aside0.mk (ho); clear BK336; clear BK337; clear BK338; clear HB; clear HO_4; have BK336 := n0_; have BK337 := n1_; have BK338 := n2_; have HB := n3_; have HO356 := n4_; clear n0_ n1_ n2_ n3_ n4_; clear ho hb hg hat))
                          go_roundg k1
                          case measure => have := HK1.out; omega
                          case rel => exact ⟨(y354), (wrap64 (x5_1 + (wrap64 (bt a0_1 x6_1)))), (wrap64 (x6_1 + 1)), (by first | rfl | (simp; done) | (simp [*]; done) | (simp; unfold wrap64; omega) | (congr 1; (try rw [Bool.eq_iff_iff]); simp [List.isEmpty_iff]; done)), (by first | rfl | (simp; done) | (simp [*]; done) | (simp; unfold wrap64; omega) | (congr 1; (try rw [Bool.eq_iff_iff]); simp [List.isEmpty_iff]; done)), H', ⟨by have := HK1.out; omega⟩, ⟨by (with_reducible repeat (first | apply Kd.R_alloc | apply Kd.R_drewN | apply Kd.R_drew)); exact HO356.out⟩, ⟨bkT BK336.out⟩, ⟨bkT BK337.out⟩, ⟨bkT BK338.out⟩, ⟨hbT HB.out⟩⟩
                        · as_aux_lemma =>
                          rw [if_neg c59] at H
                          exact absurd H (by simp)
                      · as_aux_lemma =>
                        rw [if_neg c58] at H
                        have c58b0 : decide (0 < (x4_1.length : Int)) = false := decide_eq_false c58
                        have c58b1 : decide (0 < x4_1.length) = false := decide_eq_false (by omega)
                        clear c58
                        have H' := Aside0.mk H
                        clear H; have hnb65 := NB336_337.out
                        have hnc65 := NB337_336.out; have hnb66 := NB336_338.out; have hnc66 := NB338_336.out; have hcz67_0 : wr.cell? ⟨gb336, 0, none⟩ = some (.int .i64 a0_0) := (blk_cell BK336.out 0).trans rfl; have hcz67_1 : wr.cell? ⟨gb336, 1, none⟩ = some (.string a0_1) := (blk_cell BK336.out 1).trans rfl; have hcz67_2 : wr.cell? ⟨gb336, 2, none⟩ = some (.int .i64 a0_2) := (blk_cell BK336.out 2).trans rfl; have hfz67_0 := blk_frozen BK336.out 0; have hfz67_1 := blk_frozen BK336.out 1; have hfz67_2 := blk_frozen BK336.out 2
                        have p10 : 0 ≤ (x6_1 : Int) := of_decide_eq_true (by first | (with_reducible assumption) | assumption)
                        have q10 : x6_1 < (a0_1.size : Int) := of_decide_eq_true (by first | (with_reducible assumption) | assumption)
                        have hx10 := bt_at a0_1 x6_1
                        replace p10 := eq_true p10
                        replace q10 := eq_true q10
                        obtain ⟨Ao68, co68, eo68⟩ := Kd.R_slice HO_4.out
                        subst eo68
                        go_wp2
                        go_roundg k1
                        case measure => have := HK1.out; omega
                        case rel => exact ⟨(x4_1), (wrap64 (x5_1 + (wrap64 (bt a0_1 x6_1)))), (wrap64 (x6_1 + 1)), (by first | rfl | (simp; done) | (simp [*]; done) | (simp; unfold wrap64; omega) | (congr 1; (try rw [Bool.eq_iff_iff]); simp [List.isEmpty_iff]; done)), (by first | rfl | (simp; done) | (simp [*]; done) | (simp; unfold wrap64; omega) | (congr 1; (try rw [Bool.eq_iff_iff]); simp [List.isEmpty_iff]; done)), H', ⟨by have := HK1.out; omega⟩, ⟨by (with_reducible repeat (first | apply Kd.R_alloc | apply Kd.R_drewN | apply Kd.R_drew)); exact HO_4.out⟩, ⟨bkT BK336.out⟩, ⟨bkT BK337.out⟩, ⟨bkT BK338.out⟩, ⟨hbT HB.out⟩⟩
                    · as_aux_lemma =>
                      rw [if_neg c57] at H
                      have c57b0 : decide ((bt a0_1 x6_1) ≤ 57) = false := decide_eq_false c57
                      clear c57
                      have H' := Aside0.mk H
                      clear H; have hnb69 := NB336_337.out
                      have hnc69 := NB337_336.out; have hnb70 := NB336_338.out; have hnc70 := NB338_336.out; have hcz71_0 : wr.cell? ⟨gb336, 0, none⟩ = some (.int .i64 a0_0) := (blk_cell BK336.out 0).trans rfl; have hcz71_1 : wr.cell? ⟨gb336, 1, none⟩ = some (.string a0_1) := (blk_cell BK336.out 1).trans rfl; have hcz71_2 : wr.cell? ⟨gb336, 2, none⟩ = some (.int .i64 a0_2) := (blk_cell BK336.out 2).trans rfl; have hfz71_0 := blk_frozen BK336.out 0; have hfz71_1 := blk_frozen BK336.out 1; have hfz71_2 := blk_frozen BK336.out 2
                      have p10 : 0 ≤ (x6_1 : Int) := of_decide_eq_true (by first | (with_reducible assumption) | assumption)
                      have q10 : x6_1 < (a0_1.size : Int) := of_decide_eq_true (by first | (with_reducible assumption) | assumption)
                      have hx10 := bt_at a0_1 x6_1
                      replace p10 := eq_true p10
                      replace q10 := eq_true q10
                      go_wp2
                      go_roundg k1
                      case measure => have := HK1.out; omega
                      case rel => exact ⟨(x4_1), (wrap64 (x5_1 + (wrap64 (bt a0_1 x6_1)))), (wrap64 (x6_1 + 1)), (by first | rfl | (simp; done) | (simp [*]; done) | (simp; unfold wrap64; omega) | (congr 1; (try rw [Bool.eq_iff_iff]); simp [List.isEmpty_iff]; done)), (by first | rfl | (simp; done) | (simp [*]; done) | (simp; unfold wrap64; omega) | (congr 1; (try rw [Bool.eq_iff_iff]); simp [List.isEmpty_iff]; done)), H', ⟨by have := HK1.out; omega⟩, ⟨by (with_reducible repeat (first | apply Kd.R_alloc | apply Kd.R_drewN | apply Kd.R_drew)); exact HO_4.out⟩, ⟨bkT BK336.out⟩, ⟨bkT BK337.out⟩, ⟨bkT BK338.out⟩, ⟨hbT HB.out⟩⟩
                  · as_aux_lemma =>
                    rw [if_neg c56] at H
                    have c56b0 : decide (48 ≤ (bt a0_1 x6_1)) = false := decide_eq_false c56
                    clear c56
                    have H' := Aside0.mk H
                    clear H; have hnb72 := NB336_337.out
                    have hnc72 := NB337_336.out; have hnb73 := NB336_338.out; have hnc73 := NB338_336.out; have hcz74_0 : wr.cell? ⟨gb336, 0, none⟩ = some (.int .i64 a0_0) := (blk_cell BK336.out 0).trans rfl; have hcz74_1 : wr.cell? ⟨gb336, 1, none⟩ = some (.string a0_1) := (blk_cell BK336.out 1).trans rfl; have hcz74_2 : wr.cell? ⟨gb336, 2, none⟩ = some (.int .i64 a0_2) := (blk_cell BK336.out 2).trans rfl; have hfz74_0 := blk_frozen BK336.out 0; have hfz74_1 := blk_frozen BK336.out 1; have hfz74_2 := blk_frozen BK336.out 2
                    have p10 : 0 ≤ (x6_1 : Int) := of_decide_eq_true (by first | (with_reducible assumption) | assumption)
                    have q10 : x6_1 < (a0_1.size : Int) := of_decide_eq_true (by first | (with_reducible assumption) | assumption)
                    have hx10 := bt_at a0_1 x6_1
                    replace p10 := eq_true p10
                    replace q10 := eq_true q10
                    go_wp2
                    go_roundg k1
                    case measure => have := HK1.out; omega
                    case rel => exact ⟨(x4_1), (wrap64 (x5_1 + (wrap64 (bt a0_1 x6_1)))), (wrap64 (x6_1 + 1)), (by first | rfl | (simp; done) | (simp [*]; done) | (simp; unfold wrap64; omega) | (congr 1; (try rw [Bool.eq_iff_iff]); simp [List.isEmpty_iff]; done)), (by first | rfl | (simp; done) | (simp [*]; done) | (simp; unfold wrap64; omega) | (congr 1; (try rw [Bool.eq_iff_iff]); simp [List.isEmpty_iff]; done)), H', ⟨by have := HK1.out; omega⟩, ⟨by (with_reducible repeat (first | apply Kd.R_alloc | apply Kd.R_drewN | apply Kd.R_drew)); exact HO_4.out⟩, ⟨bkT BK336.out⟩, ⟨bkT BK337.out⟩, ⟨bkT BK338.out⟩, ⟨hbT HB.out⟩⟩
          · as_aux_lemma =>
            rw [if_neg c11] at H
            have c11b0 : decide (97 ≤ (bt a0_1 x6_1)) = false := decide_eq_false c11
            clear c11
            by_cases c75 : (bt a0_1 x6_1) ≥ 65
            · as_aux_lemma =>
              rw [if_pos c75] at H
              have c75b0 : decide (65 ≤ (bt a0_1 x6_1)) = true := decide_eq_true c75
              clear c75
              by_cases c76 : (bt a0_1 x6_1) ≤ 90
              · as_aux_lemma =>
                rw [if_pos c76] at H
                have c76b0 : decide ((bt a0_1 x6_1) ≤ 90) = true := decide_eq_true c76
                clear c76
                by_cases c77 : x4_1.length < 140737488355328
                · as_aux_lemma =>
                  rw [if_pos c77] at H
                  have LMc77 := Aside0.mk c77
                  clear c77
                  obtain ⟨y357, hy357⟩ : ∃ y_ : List Int, y_ = (x4_1 ++ [bt a0_1 x6_1]) := ⟨_, rfl⟩
                  replace H : (refrainlaw5_plainest.l0 k1 y357 (wrap64 (x5_1 + (wrap64 (bt a0_1 x6_1)))) (wrap64 (x6_1 + 1)) a0_0 a0_1 a0_2 (⟨#[40]⟩ : ByteArray) (⟨#[41]⟩ : ByteArray) (⟨#[91]⟩ : ByteArray) (⟨#[93]⟩ : ByteArray) (⟨#[123]⟩ : ByteArray) (⟨#[125]⟩ : ByteArray) (⟨#[44]⟩ : ByteArray) (⟨#[46]⟩ : ByteArray) (⟨#[46, 46]⟩ : ByteArray) (⟨#[43]⟩ : ByteArray) (⟨#[45]⟩ : ByteArray) (⟨#[42]⟩ : ByteArray) (⟨#[61]⟩ : ByteArray) (⟨#[33, 61]⟩ : ByteArray) (⟨#[60]⟩ : ByteArray) (⟨#[60, 61]⟩ : ByteArray) (⟨#[62]⟩ : ByteArray) (⟨#[62, 61]⟩ : ByteArray) (⟨#[33]⟩ : ByteArray)) = some (r1, r2, r3) := by first | (rw [hy357]; with_reducible exact H) | (have H2_ := (Option.bind_some _ _).symm.trans H; rw [hy357]; with_reducible exact H2_) | (have H2_ := (Option.bind_some _ _).symm.trans H; with_reducible exact H2_) | with_reducible exact H | (rw [hy357]; exact H) | exact H
                  have Ny357 := Aside0.mk hy357
                  clear hy357
                  have H' := Aside0.mk H
                  clear H; have hnb78 := NB336_337.out
                  have hnc78 := NB337_336.out; have hnb79 := NB336_338.out; have hnc79 := NB338_336.out; have hcz80_0 : wr.cell? ⟨gb336, 0, none⟩ = some (.int .i64 a0_0) := (blk_cell BK336.out 0).trans rfl; have hcz80_1 : wr.cell? ⟨gb336, 1, none⟩ = some (.string a0_1) := (blk_cell BK336.out 1).trans rfl; have hcz80_2 : wr.cell? ⟨gb336, 2, none⟩ = some (.int .i64 a0_2) := (blk_cell BK336.out 2).trans rfl; have hfz80_0 := blk_frozen BK336.out 0; have hfz80_1 := blk_frozen BK336.out 1; have hfz80_2 := blk_frozen BK336.out 2
                  have p10 : 0 ≤ (x6_1 : Int) := of_decide_eq_true (by first | (with_reducible assumption) | assumption)
                  have q10 : x6_1 < (a0_1.size : Int) := of_decide_eq_true (by first | (with_reducible assumption) | assumption)
                  have hx10 := bt_at a0_1 x6_1
                  replace p10 := eq_true p10
                  replace q10 := eq_true q10
                  go_wp2_with (first | ((with_reducible refine gate_builtin (b := .append) (xs := #[.tmp 58, .tmp 60]) rfl ?_); (try (refine gate_guard (by rfl) ?_; dsimp only)); at_builtin; refine Kd.R_append (Kd.int .u8) (w0 := w) w.heap.size rfl (.tmp 58) (.tmp 60) 39 5 (.int .u8 0) 1 rfl Tryd.underlying39 info5 rfl (by decide) (by omega) u4 x4_1 (bt a0_1 x6_1) [.int .u8 (bt a0_1 x6_1)] (fun _ => True) (fun _ => False) rfl rfl ?aP (fun _ hk => hk.elim) ?aF ?aO ?aB ?aS ?aL ?_; (case aP => exact rfl); (case aB => exact (hbT HB.out)); (case aF => exact (fun _ _ => trivial)); (case aO => exact (by (with_reducible repeat (first | apply Kd.R_alloc | apply Kd.R_drewN | apply Kd.R_drew)); exact HO_4.out)); (case aS => exact (below_size (hbT HB.out))); (case aL => have := LMc77.out; omega); intro v358 w81 ho hb hg hat; rw [← Ny357.out] at ho; have n0_ := Aside0.mk (blk_grown (g := gb336) (o := .cells #[.int .i64 a0_0, .string a0_1, .int .i64 a0_2] 44 (0, 0)) (bkT BK336.out) hg (Kd.R_ne HO_4.out BK336.out (by decide))); have n1_ := Aside0.mk (blk_grown (g := gb337) (o := .cells #[.int .i64 0, .string (⟨#[]⟩ : ByteArray), .int .i64 0] 44 (0, 0)) (bkT BK337.out) hg (Kd.R_ne HO_4.out BK337.out (by decide))); have n2_ := Aside0.mk (blk_grown (g := gb338) (o := .cells #[.string (⟨#[40]⟩ : ByteArray), .string (⟨#[41]⟩ : ByteArray), .string (⟨#[91]⟩ : ByteArray), .string (⟨#[93]⟩ : ByteArray), .string (⟨#[123]⟩ : ByteArray), .string (⟨#[125]⟩ : ByteArray), .string (⟨#[44]⟩ : ByteArray), .string (⟨#[46]⟩ : ByteArray), .string (⟨#[46, 46]⟩ : ByteArray), .string (⟨#[43]⟩ : ByteArray), .string (⟨#[45]⟩ : ByteArray), .string (⟨#[42]⟩ : ByteArray), .string (⟨#[61]⟩ : ByteArray), .string (⟨#[33, 61]⟩ : ByteArray), .string (⟨#[60]⟩ : ByteArray), .string (⟨#[60, 61]⟩ : ByteArray), .string (⟨#[62]⟩ : ByteArray), .string (⟨#[62, 61]⟩ : ByteArray), .string (⟨#[33]⟩ : ByteArray)] 97 (0, 0)) (bkT BK338.out) hg (Kd.R_ne HO_4.out BK338.out (by decide))); have n3_ := Aside0.mk (hb); have n4_ := Aside0.mk (ho); clear BK336; clear BK337; clear BK338; clear HB; clear HO_4; have BK336 := n0_; have BK337 := n1_; have BK338 := n2_; have HB := n3_; have HO359 := n4_; clear n0_ n1_ n2_ n3_ n4_; clear ho hb hg hat))
                  go_roundg k1
                  case measure => have := HK1.out; omega
                  case rel => exact ⟨(y357), (wrap64 (x5_1 + (wrap64 (bt a0_1 x6_1)))), (wrap64 (x6_1 + 1)), (by first | rfl | (simp; done) | (simp [*]; done) | (simp; unfold wrap64; omega) | (congr 1; (try rw [Bool.eq_iff_iff]); simp [List.isEmpty_iff]; done)), (by first | rfl | (simp; done) | (simp [*]; done) | (simp; unfold wrap64; omega) | (congr 1; (try rw [Bool.eq_iff_iff]); simp [List.isEmpty_iff]; done)), H', ⟨by have := HK1.out; omega⟩, ⟨by (with_reducible repeat (first | apply Kd.R_alloc | apply Kd.R_drewN | apply Kd.R_drew)); exact HO359.out⟩, ⟨bkT BK336.out⟩, ⟨bkT BK337.out⟩, ⟨bkT BK338.out⟩, ⟨hbT HB.out⟩⟩
                · as_aux_lemma =>
                  rw [if_neg c77] at H
                  exact absurd H (by simp)
              · as_aux_lemma =>
                rw [if_neg c76] at H
                have c76b0 : decide ((bt a0_1 x6_1) ≤ 90) = false := decide_eq_false c76
                clear c76
                by_cases c82 : (bt a0_1 x6_1) = 95
                · as_aux_lemma =>
                  rw [if_pos c82] at H
                  have c82b0 : ((bt a0_1 x6_1) == 95) = true := beq_iff_eq.mpr c82
                  have c82b1 : ((bt a0_1 x6_1) != 95) = false := bne_eq_false_iff_eq.mpr c82
                  clear c82
                  by_cases c83 : x4_1.length < 140737488355328
                  · as_aux_lemma =>
                    rw [if_pos c83] at H
                    have LMc83 := Aside0.mk c83
                    clear c83
                    obtain ⟨y360, hy360⟩ : ∃ y_ : List Int, y_ = (x4_1 ++ [bt a0_1 x6_1]) := ⟨_, rfl⟩
                    replace H : (refrainlaw5_plainest.l0 k1 y360 (wrap64 (x5_1 + (wrap64 (bt a0_1 x6_1)))) (wrap64 (x6_1 + 1)) a0_0 a0_1 a0_2 (⟨#[40]⟩ : ByteArray) (⟨#[41]⟩ : ByteArray) (⟨#[91]⟩ : ByteArray) (⟨#[93]⟩ : ByteArray) (⟨#[123]⟩ : ByteArray) (⟨#[125]⟩ : ByteArray) (⟨#[44]⟩ : ByteArray) (⟨#[46]⟩ : ByteArray) (⟨#[46, 46]⟩ : ByteArray) (⟨#[43]⟩ : ByteArray) (⟨#[45]⟩ : ByteArray) (⟨#[42]⟩ : ByteArray) (⟨#[61]⟩ : ByteArray) (⟨#[33, 61]⟩ : ByteArray) (⟨#[60]⟩ : ByteArray) (⟨#[60, 61]⟩ : ByteArray) (⟨#[62]⟩ : ByteArray) (⟨#[62, 61]⟩ : ByteArray) (⟨#[33]⟩ : ByteArray)) = some (r1, r2, r3) := by first | (rw [hy360]; with_reducible exact H) | (have H2_ := (Option.bind_some _ _).symm.trans H; rw [hy360]; with_reducible exact H2_) | (have H2_ := (Option.bind_some _ _).symm.trans H; with_reducible exact H2_) | with_reducible exact H | (rw [hy360]; exact H) | exact H
                    have Ny360 := Aside0.mk hy360
                    clear hy360
                    have H' := Aside0.mk H
                    clear H; have hnb84 := NB336_337.out
                    have hnc84 := NB337_336.out; have hnb85 := NB336_338.out; have hnc85 := NB338_336.out; have hcz86_0 : wr.cell? ⟨gb336, 0, none⟩ = some (.int .i64 a0_0) := (blk_cell BK336.out 0).trans rfl; have hcz86_1 : wr.cell? ⟨gb336, 1, none⟩ = some (.string a0_1) := (blk_cell BK336.out 1).trans rfl; have hcz86_2 : wr.cell? ⟨gb336, 2, none⟩ = some (.int .i64 a0_2) := (blk_cell BK336.out 2).trans rfl; have hfz86_0 := blk_frozen BK336.out 0; have hfz86_1 := blk_frozen BK336.out 1; have hfz86_2 := blk_frozen BK336.out 2
                    have p10 : 0 ≤ (x6_1 : Int) := of_decide_eq_true (by first | (with_reducible assumption) | assumption)
                    have q10 : x6_1 < (a0_1.size : Int) := of_decide_eq_true (by first | (with_reducible assumption) | assumption)
                    have hx10 := bt_at a0_1 x6_1
                    replace p10 := eq_true p10
                    replace q10 := eq_true q10
                    go_wp2_with (first | ((with_reducible refine gate_builtin (b := .append) (xs := #[.tmp 58, .tmp 60]) rfl ?_); (try (refine gate_guard (by rfl) ?_; dsimp only)); at_builtin; refine Kd.R_append (Kd.int .u8) (w0 := w) w.heap.size rfl (.tmp 58) (.tmp 60) 39 5 (.int .u8 0) 1 rfl Tryd.underlying39 info5 rfl (by decide) (by omega) u4 x4_1 (bt a0_1 x6_1) [.int .u8 (bt a0_1 x6_1)] (fun _ => True) (fun _ => False) rfl rfl ?aP (fun _ hk => hk.elim) ?aF ?aO ?aB ?aS ?aL ?_; (case aP => exact rfl); (case aB => exact (hbT HB.out)); (case aF => exact (fun _ _ => trivial)); (case aO => exact (by (with_reducible repeat (first | apply Kd.R_alloc | apply Kd.R_drewN | apply Kd.R_drew)); exact HO_4.out)); (case aS => exact (below_size (hbT HB.out))); (case aL => have := LMc83.out; omega); intro v361 w87 ho hb hg hat; rw [← Ny360.out] at ho; have n0_ := Aside0.mk (blk_grown (g := gb336) (o := .cells #[.int .i64 a0_0, .string a0_1, .int .i64 a0_2] 44 (0, 0)) (bkT BK336.out) hg (Kd.R_ne HO_4.out BK336.out (by decide))); have n1_ := Aside0.mk (blk_grown (g := gb337) (o := .cells #[.int .i64 0, .string (⟨#[]⟩ : ByteArray), .int .i64 0] 44 (0, 0)) (bkT BK337.out) hg (Kd.R_ne HO_4.out BK337.out (by decide))); have n2_ := Aside0.mk (blk_grown (g := gb338) (o := .cells #[.string (⟨#[40]⟩ : ByteArray), .string (⟨#[41]⟩ : ByteArray), .string (⟨#[91]⟩ : ByteArray), .string (⟨#[93]⟩ : ByteArray), .string (⟨#[123]⟩ : ByteArray), .string (⟨#[125]⟩ : ByteArray), .string (⟨#[44]⟩ : ByteArray), .string (⟨#[46]⟩ : ByteArray), .string (⟨#[46, 46]⟩ : ByteArray), .string (⟨#[43]⟩ : ByteArray), .string (⟨#[45]⟩ : ByteArray), .string (⟨#[42]⟩ : ByteArray), .string (⟨#[61]⟩ : ByteArray), .string (⟨#[33, 61]⟩ : ByteArray), .string (⟨#[60]⟩ : ByteArray), .string (⟨#[60, 61]⟩ : ByteArray), .string (⟨#[62]⟩ : ByteArray), .string (⟨#[62, 61]⟩ : ByteArray), .string (⟨#[33]⟩ : ByteArray)] 97 (0, 0)) (bkT BK338.out) hg (Kd.R_ne HO_4.out BK338.out (by decide))); have n3_ := Aside0.mk (hb); have n4_ := Aside0.mk (ho); clear BK336; clear BK337; clear BK338; clear HB; clear HO_4; have BK336 := n0_; have BK337 := n1_; have BK338 := n2_; have HB := n3_; have HO362 := n4_; clear n0_ n1_ n2_ n3_ n4_; clear ho hb hg hat))
                    go_roundg k1
                    case measure => have := HK1.out; omega
                    case rel => exact ⟨(y360), (wrap64 (x5_1 + (wrap64 (bt a0_1 x6_1)))), (wrap64 (x6_1 + 1)), (by first | rfl | (simp; done) | (simp [*]; done) | (simp; unfold wrap64; omega) | (congr 1; (try rw [Bool.eq_iff_iff]); simp [List.isEmpty_iff]; done)), (by first | rfl | (simp; done) | (simp [*]; done) | (simp; unfold wrap64; omega) | (congr 1; (try rw [Bool.eq_iff_iff]); simp [List.isEmpty_iff]; done)), H', ⟨by have := HK1.out; omega⟩, ⟨by (with_reducible repeat (first | apply Kd.R_alloc | apply Kd.R_drewN | apply Kd.R_drew)); exact HO362.out⟩, ⟨bkT BK336.out⟩, ⟨bkT BK337.out⟩, ⟨bkT BK338.out⟩, ⟨hbT HB.out⟩⟩
                  · as_aux_lemma =>
                    rw [if_neg c83] at H
                    exact absurd H (by simp)
                · as_aux_lemma =>
                  rw [if_neg c82] at H
                  have c82b0 : ((bt a0_1 x6_1) == 95) = false := beq_eq_false_iff_ne.mpr c82
                  have c82b1 : ((bt a0_1 x6_1) != 95) = true := bne_iff_ne.mpr c82
                  by_cases c88 : (bt a0_1 x6_1) ≥ 48
                  · as_aux_lemma =>
                    rw [if_pos c88] at H
                    have c88b0 : decide (48 ≤ (bt a0_1 x6_1)) = true := decide_eq_true c88
                    clear c88
                    by_cases c89 : (bt a0_1 x6_1) ≤ 57
                    · as_aux_lemma =>
                      rw [if_pos c89] at H
                      have c89b0 : decide ((bt a0_1 x6_1) ≤ 57) = true := decide_eq_true c89
                      clear c89
                      by_cases c90 : (x4_1.length : Int) > 0
                      · as_aux_lemma =>
                        rw [if_pos c90] at H
                        have c90b0 : decide (0 < (x4_1.length : Int)) = true := decide_eq_true c90
                        have c90b1 : decide (0 < x4_1.length) = true := decide_eq_true (by omega)
                        clear c90
                        by_cases c91 : x4_1.length < 140737488355328
                        · as_aux_lemma =>
                          rw [if_pos c91] at H
                          have LMc91 := Aside0.mk c91
                          clear c91
                          obtain ⟨y363, hy363⟩ : ∃ y_ : List Int, y_ = (x4_1 ++ [bt a0_1 x6_1]) := ⟨_, rfl⟩
                          replace H : (refrainlaw5_plainest.l0 k1 y363 (wrap64 (x5_1 + (wrap64 (bt a0_1 x6_1)))) (wrap64 (x6_1 + 1)) a0_0 a0_1 a0_2 (⟨#[40]⟩ : ByteArray) (⟨#[41]⟩ : ByteArray) (⟨#[91]⟩ : ByteArray) (⟨#[93]⟩ : ByteArray) (⟨#[123]⟩ : ByteArray) (⟨#[125]⟩ : ByteArray) (⟨#[44]⟩ : ByteArray) (⟨#[46]⟩ : ByteArray) (⟨#[46, 46]⟩ : ByteArray) (⟨#[43]⟩ : ByteArray) (⟨#[45]⟩ : ByteArray) (⟨#[42]⟩ : ByteArray) (⟨#[61]⟩ : ByteArray) (⟨#[33, 61]⟩ : ByteArray) (⟨#[60]⟩ : ByteArray) (⟨#[60, 61]⟩ : ByteArray) (⟨#[62]⟩ : ByteArray) (⟨#[62, 61]⟩ : ByteArray) (⟨#[33]⟩ : ByteArray)) = some (r1, r2, r3) := by first | (rw [hy363]; with_reducible exact H) | (have H2_ := (Option.bind_some _ _).symm.trans H; rw [hy363]; with_reducible exact H2_) | (have H2_ := (Option.bind_some _ _).symm.trans H; with_reducible exact H2_) | with_reducible exact H | (rw [hy363]; exact H) | exact H
                          have Ny363 := Aside0.mk hy363
                          clear hy363
                          have H' := Aside0.mk H
                          clear H; have hnb92 := NB336_337.out
                          have hnc92 := NB337_336.out; have hnb93 := NB336_338.out; have hnc93 := NB338_336.out; have hcz94_0 : wr.cell? ⟨gb336, 0, none⟩ = some (.int .i64 a0_0) := (blk_cell BK336.out 0).trans rfl; have hcz94_1 : wr.cell? ⟨gb336, 1, none⟩ = some (.string a0_1) := (blk_cell BK336.out 1).trans rfl; have hcz94_2 : wr.cell? ⟨gb336, 2, none⟩ = some (.int .i64 a0_2) := (blk_cell BK336.out 2).trans rfl; have hfz94_0 := blk_frozen BK336.out 0; have hfz94_1 := blk_frozen BK336.out 1; have hfz94_2 := blk_frozen BK336.out 2
                          have p10 : 0 ≤ (x6_1 : Int) := of_decide_eq_true (by first | (with_reducible assumption) | assumption)
                          have q10 : x6_1 < (a0_1.size : Int) := of_decide_eq_true (by first | (with_reducible assumption) | assumption)
                          have hx10 := bt_at a0_1 x6_1
                          replace p10 := eq_true p10
                          replace q10 := eq_true q10
                          obtain ⟨Ao95, co95, eo95⟩ := Kd.R_slice HO_4.out
                          subst eo95
                          go_wp2_with (first | ((with_reducible refine gate_builtin (b := .append) (xs := #[.tmp 58, .tmp 60]) rfl ?_); (try (refine gate_guard (by rfl) ?_; dsimp only)); at_builtin; refine Kd.R_append (Kd.int .u8) (w0 := w) w.heap.size rfl (.tmp 58) (.tmp 60) 39 5 (.int .u8 0) 1 rfl Tryd.underlying39 info5 rfl (by decide) (by omega) (.slice Ao95 x4_1.length co95) x4_1 (bt a0_1 x6_1) [.int .u8 (bt a0_1 x6_1)] (fun _ => True) (fun _ => False) rfl rfl ?aP (fun _ hk => hk.elim) ?aF ?aO ?aB ?aS ?aL ?_; (case aP => exact rfl); (case aB => exact (hbT HB.out)); (case aF => exact (fun _ _ => trivial)); (case aO => exact (by (with_reducible repeat (first | apply Kd.R_alloc | apply Kd.R_drewN | apply Kd.R_drew)); exact HO_4.out)); (case aS => exact (below_size (hbT HB.out))); (case aL => have := LMc91.out; omega); intro v364 w96 ho hb hg hat; rw [← Ny363.out] at ho; have n0_ := Aside0.mk (blk_grown (g := gb336) (o := .cells #[.int .i64 a0_0, .string a0_1, .int .i64 a0_2] 44 (0, 0)) (bkT BK336.out) hg (Kd.R_ne HO_4.out BK336.out (by decide))); have n1_ := Aside0.mk (blk_grown (g := gb337) (o := .cells #[.int .i64 0, .string (⟨#[]⟩ : ByteArray), .int .i64 0] 44 (0, 0)) (bkT BK337.out) hg (Kd.R_ne HO_4.out BK337.out (by decide))); have n2_ := Aside0.mk (blk_grown (g := gb338) (o := .cells #[.string (⟨#[40]⟩ : ByteArray), .string (⟨#[41]⟩ : ByteArray), .string (⟨#[91]⟩ : ByteArray), .string (⟨#[93]⟩ : ByteArray), .string (⟨#[123]⟩ : ByteArray), .string (⟨#[125]⟩ : ByteArray), .string (⟨#[44]⟩ : ByteArray), .string (⟨#[46]⟩ : ByteArray), .string (⟨#[46, 46]⟩ : ByteArray), .string (⟨#[43]⟩ : ByteArray), .string (⟨#[45]⟩ : ByteArray), .string (⟨#[42]⟩ : ByteArray), .string (⟨#[61]⟩ : ByteArray), .string (⟨#[33, 61]⟩ : ByteArray), .string (⟨#[60]⟩ : ByteArray), .string (⟨#[60, 61]⟩ : ByteArray), .string (⟨#[62]⟩ : ByteArray), .string (⟨#[62, 61]⟩ : ByteArray), .string (⟨#[33]⟩ : ByteArray)] 97 (0, 0)) (bkT BK338.out) hg (Kd.R_ne HO_4.out BK338.out (by decide))); have n3_ := Aside0.mk (hb); have n4_ := Aside0.mk (ho); clear BK336; clear BK337; clear BK338; clear HB; clear HO_4; have BK336 := n0_; have BK337 := n1_; have BK338 := n2_; have HB := n3_; have HO365 := n4_; clear n0_ n1_ n2_ n3_ n4_; clear ho hb hg hat))
                          go_roundg k1
                          case measure => have := HK1.out; omega
                          case rel => exact ⟨(y363), (wrap64 (x5_1 + (wrap64 (bt a0_1 x6_1)))), (wrap64 (x6_1 + 1)), (by first | rfl | (simp; done) | (simp [*]; done) | (simp; unfold wrap64; omega) | (congr 1; (try rw [Bool.eq_iff_iff]); simp [List.isEmpty_iff]; done)), (by first | rfl | (simp; done) | (simp [*]; done) | (simp; unfold wrap64; omega) | (congr 1; (try rw [Bool.eq_iff_iff]); simp [List.isEmpty_iff]; done)), H', ⟨by have := HK1.out; omega⟩, ⟨by (with_reducible repeat (first | apply Kd.R_alloc | apply Kd.R_drewN | apply Kd.R_drew)); exact HO365.out⟩, ⟨bkT BK336.out⟩, ⟨bkT BK337.out⟩, ⟨bkT BK338.out⟩, ⟨hbT HB.out⟩⟩
                        · as_aux_lemma =>
                          rw [if_neg c91] at H
                          exact absurd H (by simp)
                      · as_aux_lemma =>
                        rw [if_neg c90] at H
                        have c90b0 : decide (0 < (x4_1.length : Int)) = false := decide_eq_false c90
                        have c90b1 : decide (0 < x4_1.length) = false := decide_eq_false (by omega)
                        clear c90
                        have H' := Aside0.mk H
                        clear H; have hnb97 := NB336_337.out
                        have hnc97 := NB337_336.out; have hnb98 := NB336_338.out; have hnc98 := NB338_336.out; have hcz99_0 : wr.cell? ⟨gb336, 0, none⟩ = some (.int .i64 a0_0) := (blk_cell BK336.out 0).trans rfl; have hcz99_1 : wr.cell? ⟨gb336, 1, none⟩ = some (.string a0_1) := (blk_cell BK336.out 1).trans rfl; have hcz99_2 : wr.cell? ⟨gb336, 2, none⟩ = some (.int .i64 a0_2) := (blk_cell BK336.out 2).trans rfl; have hfz99_0 := blk_frozen BK336.out 0; have hfz99_1 := blk_frozen BK336.out 1; have hfz99_2 := blk_frozen BK336.out 2
                        have p10 : 0 ≤ (x6_1 : Int) := of_decide_eq_true (by first | (with_reducible assumption) | assumption)
                        have q10 : x6_1 < (a0_1.size : Int) := of_decide_eq_true (by first | (with_reducible assumption) | assumption)
                        have hx10 := bt_at a0_1 x6_1
                        replace p10 := eq_true p10
                        replace q10 := eq_true q10
                        obtain ⟨Ao100, co100, eo100⟩ := Kd.R_slice HO_4.out
                        subst eo100
                        go_wp2
                        go_roundg k1
                        case measure => have := HK1.out; omega
                        case rel => exact ⟨(x4_1), (wrap64 (x5_1 + (wrap64 (bt a0_1 x6_1)))), (wrap64 (x6_1 + 1)), (by first | rfl | (simp; done) | (simp [*]; done) | (simp; unfold wrap64; omega) | (congr 1; (try rw [Bool.eq_iff_iff]); simp [List.isEmpty_iff]; done)), (by first | rfl | (simp; done) | (simp [*]; done) | (simp; unfold wrap64; omega) | (congr 1; (try rw [Bool.eq_iff_iff]); simp [List.isEmpty_iff]; done)), H', ⟨by have := HK1.out; omega⟩, ⟨by (with_reducible repeat (first | apply Kd.R_alloc | apply Kd.R_drewN | apply Kd.R_drew)); exact HO_4.out⟩, ⟨bkT BK336.out⟩, ⟨bkT BK337.out⟩, ⟨bkT BK338.out⟩, ⟨hbT HB.out⟩⟩
                    · as_aux_lemma =>
                      rw [if_neg c89] at H
                      have c89b0 : decide ((bt a0_1 x6_1) ≤ 57) = false := decide_eq_false c89
                      clear c89
                      have H' := Aside0.mk H
                      clear H; have hnb101 := NB336_337.out
                      have hnc101 := NB337_336.out; have hnb102 := NB336_338.out; have hnc102 := NB338_336.out; have hcz103_0 : wr.cell? ⟨gb336, 0, none⟩ = some (.int .i64 a0_0) := (blk_cell BK336.out 0).trans rfl; have hcz103_1 : wr.cell? ⟨gb336, 1, none⟩ = some (.string a0_1) := (blk_cell BK336.out 1).trans rfl; have hcz103_2 : wr.cell? ⟨gb336, 2, none⟩ = some (.int .i64 a0_2) := (blk_cell BK336.out 2).trans rfl; have hfz103_0 := blk_frozen BK336.out 0; have hfz103_1 := blk_frozen BK336.out 1; have hfz103_2 := blk_frozen BK336.out 2
                      have p10 : 0 ≤ (x6_1 : Int) := of_decide_eq_true (by first | (with_reducible assumption) | assumption)
                      have q10 : x6_1 < (a0_1.size : Int) := of_decide_eq_true (by first | (with_reducible assumption) | assumption)
                      have hx10 := bt_at a0_1 x6_1
                      replace p10 := eq_true p10
                      replace q10 := eq_true q10
                      go_wp2
                      go_roundg k1
                      case measure => have := HK1.out; omega
                      case rel => exact ⟨(x4_1), (wrap64 (x5_1 + (wrap64 (bt a0_1 x6_1)))), (wrap64 (x6_1 + 1)), (by first | rfl | (simp; done) | (simp [*]; done) | (simp; unfold wrap64; omega) | (congr 1; (try rw [Bool.eq_iff_iff]); simp [List.isEmpty_iff]; done)), (by first | rfl | (simp; done) | (simp [*]; done) | (simp; unfold wrap64; omega) | (congr 1; (try rw [Bool.eq_iff_iff]); simp [List.isEmpty_iff]; done)), H', ⟨by have := HK1.out; omega⟩, ⟨by (with_reducible repeat (first | apply Kd.R_alloc | apply Kd.R_drewN | apply Kd.R_drew)); exact HO_4.out⟩, ⟨bkT BK336.out⟩, ⟨bkT BK337.out⟩, ⟨bkT BK338.out⟩, ⟨hbT HB.out⟩⟩
                  · as_aux_lemma =>
                    rw [if_neg c88] at H
                    have c88b0 : decide (48 ≤ (bt a0_1 x6_1)) = false := decide_eq_false c88
                    clear c88
                    have H' := Aside0.mk H
                    clear H; have hnb104 := NB336_337.out
                    have hnc104 := NB337_336.out; have hnb105 := NB336_338.out; have hnc105 := NB338_336.out; have hcz106_0 : wr.cell? ⟨gb336, 0, none⟩ = some (.int .i64 a0_0) := (blk_cell BK336.out 0).trans rfl; have hcz106_1 : wr.cell? ⟨gb336, 1, none⟩ = some (.string a0_1) := (blk_cell BK336.out 1).trans rfl; have hcz106_2 : wr.cell? ⟨gb336, 2, none⟩ = some (.int .i64 a0_2) := (blk_cell BK336.out 2).trans rfl; have hfz106_0 := blk_frozen BK336.out 0; have hfz106_1 := blk_frozen BK336.out 1; have hfz106_2 := blk_frozen BK336.out 2
                    have p10 : 0 ≤ (x6_1 : Int) := of_decide_eq_true (by first | (with_reducible assumption) | assumption)
                    have q10 : x6_1 < (a0_1.size : Int) := of_decide_eq_true (by first | (with_reducible assumption) | assumption)
                    have hx10 := bt_at a0_1 x6_1
                    replace p10 := eq_true p10
                    replace q10 := eq_true q10
                    go_wp2
                    go_roundg k1
                    case measure => have := HK1.out; omega
                    case rel => exact ⟨(x4_1), (wrap64 (x5_1 + (wrap64 (bt a0_1 x6_1)))), (wrap64 (x6_1 + 1)), (by first | rfl | (simp; done) | (simp [*]; done) | (simp; unfold wrap64; omega) | (congr 1; (try rw [Bool.eq_iff_iff]); simp [List.isEmpty_iff]; done)), (by first | rfl | (simp; done) | (simp [*]; done) | (simp; unfold wrap64; omega) | (congr 1; (try rw [Bool.eq_iff_iff]); simp [List.isEmpty_iff]; done)), H', ⟨by have := HK1.out; omega⟩, ⟨by (with_reducible repeat (first | apply Kd.R_alloc | apply Kd.R_drewN | apply Kd.R_drew)); exact HO_4.out⟩, ⟨bkT BK336.out⟩, ⟨bkT BK337.out⟩, ⟨bkT BK338.out⟩, ⟨hbT HB.out⟩⟩
            · as_aux_lemma =>
              rw [if_neg c75] at H
              have c75b0 : decide (65 ≤ (bt a0_1 x6_1)) = false := decide_eq_false c75
              clear c75
              by_cases c107 : (bt a0_1 x6_1) = 95
              · as_aux_lemma =>
                rw [if_pos c107] at H
                have c107b0 : ((bt a0_1 x6_1) == 95) = true := beq_iff_eq.mpr c107
                have c107b1 : ((bt a0_1 x6_1) != 95) = false := bne_eq_false_iff_eq.mpr c107
                clear c107
                by_cases c108 : x4_1.length < 140737488355328
                · as_aux_lemma =>
                  rw [if_pos c108] at H
                  have LMc108 := Aside0.mk c108
                  clear c108
                  obtain ⟨y366, hy366⟩ : ∃ y_ : List Int, y_ = (x4_1 ++ [bt a0_1 x6_1]) := ⟨_, rfl⟩
                  replace H : (refrainlaw5_plainest.l0 k1 y366 (wrap64 (x5_1 + (wrap64 (bt a0_1 x6_1)))) (wrap64 (x6_1 + 1)) a0_0 a0_1 a0_2 (⟨#[40]⟩ : ByteArray) (⟨#[41]⟩ : ByteArray) (⟨#[91]⟩ : ByteArray) (⟨#[93]⟩ : ByteArray) (⟨#[123]⟩ : ByteArray) (⟨#[125]⟩ : ByteArray) (⟨#[44]⟩ : ByteArray) (⟨#[46]⟩ : ByteArray) (⟨#[46, 46]⟩ : ByteArray) (⟨#[43]⟩ : ByteArray) (⟨#[45]⟩ : ByteArray) (⟨#[42]⟩ : ByteArray) (⟨#[61]⟩ : ByteArray) (⟨#[33, 61]⟩ : ByteArray) (⟨#[60]⟩ : ByteArray) (⟨#[60, 61]⟩ : ByteArray) (⟨#[62]⟩ : ByteArray) (⟨#[62, 61]⟩ : ByteArray) (⟨#[33]⟩ : ByteArray)) = some (r1, r2, r3) := by first | (rw [hy366]; with_reducible exact H) | (have H2_ := (Option.bind_some _ _).symm.trans H; rw [hy366]; with_reducible exact H2_) | (have H2_ := (Option.bind_some _ _).symm.trans H; with_reducible exact H2_) | with_reducible exact H | (rw [hy366]; exact H) | exact H
                  have Ny366 := Aside0.mk hy366
                  clear hy366
                  have H' := Aside0.mk H
                  clear H; have hnb109 := NB336_337.out
                  have hnc109 := NB337_336.out; have hnb110 := NB336_338.out; have hnc110 := NB338_336.out; have hcz111_0 : wr.cell? ⟨gb336, 0, none⟩ = some (.int .i64 a0_0) := (blk_cell BK336.out 0).trans rfl; have hcz111_1 : wr.cell? ⟨gb336, 1, none⟩ = some (.string a0_1) := (blk_cell BK336.out 1).trans rfl; have hcz111_2 : wr.cell? ⟨gb336, 2, none⟩ = some (.int .i64 a0_2) := (blk_cell BK336.out 2).trans rfl; have hfz111_0 := blk_frozen BK336.out 0; have hfz111_1 := blk_frozen BK336.out 1; have hfz111_2 := blk_frozen BK336.out 2
                  have p10 : 0 ≤ (x6_1 : Int) := of_decide_eq_true (by first | (with_reducible assumption) | assumption)
                  have q10 : x6_1 < (a0_1.size : Int) := of_decide_eq_true (by first | (with_reducible assumption) | assumption)
                  have hx10 := bt_at a0_1 x6_1
                  replace p10 := eq_true p10
                  replace q10 := eq_true q10
                  go_wp2_with (first | ((with_reducible refine gate_builtin (b := .append) (xs := #[.tmp 58, .tmp 60]) rfl ?_); (try (refine gate_guard (by rfl) ?_; dsimp only)); at_builtin; refine Kd.R_append (Kd.int .u8) (w0 := w) w.heap.size rfl (.tmp 58) (.tmp 60) 39 5 (.int .u8 0) 1 rfl Tryd.underlying39 info5 rfl (by decide) (by omega) u4 x4_1 (bt a0_1 x6_1) [.int .u8 (bt a0_1 x6_1)] (fun _ => True) (fun _ => False) rfl rfl ?aP (fun _ hk => hk.elim) ?aF ?aO ?aB ?aS ?aL ?_; (case aP => exact rfl); (case aB => exact (hbT HB.out)); (case aF => exact (fun _ _ => trivial)); (case aO => exact (by (with_reducible repeat (first | apply Kd.R_alloc | apply Kd.R_drewN | apply Kd.R_drew)); exact HO_4.out)); (case aS => exact (below_size (hbT HB.out))); (case aL => have := LMc108.out; omega); intro v367 w112 ho hb hg hat; rw [← Ny366.out] at ho; have n0_ := Aside0.mk (blk_grown (g := gb336) (o := .cells #[.int .i64 a0_0, .string a0_1, .int .i64 a0_2] 44 (0, 0)) (bkT BK336.out) hg (Kd.R_ne HO_4.out BK336.out (by decide))); have n1_ := Aside0.mk (blk_grown (g := gb337) (o := .cells #[.int .i64 0, .string (⟨#[]⟩ : ByteArray), .int .i64 0] 44 (0, 0)) (bkT BK337.out) hg (Kd.R_ne HO_4.out BK337.out (by decide))); have n2_ := Aside0.mk (blk_grown (g := gb338) (o := .cells #[.string (⟨#[40]⟩ : ByteArray), .string (⟨#[41]⟩ : ByteArray), .string (⟨#[91]⟩ : ByteArray), .string (⟨#[93]⟩ : ByteArray), .string (⟨#[123]⟩ : ByteArray), .string (⟨#[125]⟩ : ByteArray), .string (⟨#[44]⟩ : ByteArray), .string (⟨#[46]⟩ : ByteArray), .string (⟨#[46, 46]⟩ : ByteArray), .string (⟨#[43]⟩ : ByteArray), .string (⟨#[45]⟩ : ByteArray), .string (⟨#[42]⟩ : ByteArray), .string (⟨#[61]⟩ : ByteArray), .string (⟨#[33, 61]⟩ : ByteArray), .string (⟨#[60]⟩ : ByteArray), .string (⟨#[60, 61]⟩ : ByteArray), .string (⟨#[62]⟩ : ByteArray), .string (⟨#[62, 61]⟩ : ByteArray), .string (⟨#[33]⟩ : ByteArray)] 97 (0, 0)) (bkT BK338.out) hg (Kd.R_ne HO_4.out BK338.out (by decide))); have n3_ := Aside0.mk (hb); have n4_ := Aside0.mk (ho); clear BK336; clear BK337; clear BK338; clear HB; clear HO_4; have BK336 := n0_; have BK337 := n1_; have BK338 := n2_; have HB := n3_; have HO368 := n4_; clear n0_ n1_ n2_ n3_ n4_; clear ho hb hg hat))
                  go_roundg k1
                  case measure => have := HK1.out; omega
                  case rel => exact ⟨(y366), (wrap64 (x5_1 + (wrap64 (bt a0_1 x6_1)))), (wrap64 (x6_1 + 1)), (by first | rfl | (simp; done) | (simp [*]; done) | (simp; unfold wrap64; omega) | (congr 1; (try rw [Bool.eq_iff_iff]); simp [List.isEmpty_iff]; done)), (by first | rfl | (simp; done) | (simp [*]; done) | (simp; unfold wrap64; omega) | (congr 1; (try rw [Bool.eq_iff_iff]); simp [List.isEmpty_iff]; done)), H', ⟨by have := HK1.out; omega⟩, ⟨by (with_reducible repeat (first | apply Kd.R_alloc | apply Kd.R_drewN | apply Kd.R_drew)); exact HO368.out⟩, ⟨bkT BK336.out⟩, ⟨bkT BK337.out⟩, ⟨bkT BK338.out⟩, ⟨hbT HB.out⟩⟩
                · as_aux_lemma =>
                  rw [if_neg c108] at H
                  exact absurd H (by simp)
              · as_aux_lemma =>
                rw [if_neg c107] at H
                have c107b0 : ((bt a0_1 x6_1) == 95) = false := beq_eq_false_iff_ne.mpr c107
                have c107b1 : ((bt a0_1 x6_1) != 95) = true := bne_iff_ne.mpr c107
                by_cases c113 : (bt a0_1 x6_1) ≥ 48
                · as_aux_lemma =>
                  rw [if_pos c113] at H
                  have c113b0 : decide (48 ≤ (bt a0_1 x6_1)) = true := decide_eq_true c113
                  clear c113
                  by_cases c114 : (bt a0_1 x6_1) ≤ 57
                  · as_aux_lemma =>
                    rw [if_pos c114] at H
                    have c114b0 : decide ((bt a0_1 x6_1) ≤ 57) = true := decide_eq_true c114
                    clear c114
                    by_cases c115 : (x4_1.length : Int) > 0
                    · as_aux_lemma =>
                      rw [if_pos c115] at H
                      have c115b0 : decide (0 < (x4_1.length : Int)) = true := decide_eq_true c115
                      have c115b1 : decide (0 < x4_1.length) = true := decide_eq_true (by omega)
                      clear c115
                      by_cases c116 : x4_1.length < 140737488355328
                      · as_aux_lemma =>
                        rw [if_pos c116] at H
                        have LMc116 := Aside0.mk c116
                        clear c116
                        obtain ⟨y369, hy369⟩ : ∃ y_ : List Int, y_ = (x4_1 ++ [bt a0_1 x6_1]) := ⟨_, rfl⟩
                        replace H : (refrainlaw5_plainest.l0 k1 y369 (wrap64 (x5_1 + (wrap64 (bt a0_1 x6_1)))) (wrap64 (x6_1 + 1)) a0_0 a0_1 a0_2 (⟨#[40]⟩ : ByteArray) (⟨#[41]⟩ : ByteArray) (⟨#[91]⟩ : ByteArray) (⟨#[93]⟩ : ByteArray) (⟨#[123]⟩ : ByteArray) (⟨#[125]⟩ : ByteArray) (⟨#[44]⟩ : ByteArray) (⟨#[46]⟩ : ByteArray) (⟨#[46, 46]⟩ : ByteArray) (⟨#[43]⟩ : ByteArray) (⟨#[45]⟩ : ByteArray) (⟨#[42]⟩ : ByteArray) (⟨#[61]⟩ : ByteArray) (⟨#[33, 61]⟩ : ByteArray) (⟨#[60]⟩ : ByteArray) (⟨#[60, 61]⟩ : ByteArray) (⟨#[62]⟩ : ByteArray) (⟨#[62, 61]⟩ : ByteArray) (⟨#[33]⟩ : ByteArray)) = some (r1, r2, r3) := by first | (rw [hy369]; with_reducible exact H) | (have H2_ := (Option.bind_some _ _).symm.trans H; rw [hy369]; with_reducible exact H2_) | (have H2_ := (Option.bind_some _ _).symm.trans H; with_reducible exact H2_) | with_reducible exact H | (rw [hy369]; exact H) | exact H
                        have Ny369 := Aside0.mk hy369
                        clear hy369
                        have H' := Aside0.mk H
                        clear H; have hnb117 := NB336_337.out
                        have hnc117 := NB337_336.out; have hnb118 := NB336_338.out; have hnc118 := NB338_336.out; have hcz119_0 : wr.cell? ⟨gb336, 0, none⟩ = some (.int .i64 a0_0) := (blk_cell BK336.out 0).trans rfl; have hcz119_1 : wr.cell? ⟨gb336, 1, none⟩ = some (.string a0_1) := (blk_cell BK336.out 1).trans rfl; have hcz119_2 : wr.cell? ⟨gb336, 2, none⟩ = some (.int .i64 a0_2) := (blk_cell BK336.out 2).trans rfl; have hfz119_0 := blk_frozen BK336.out 0; have hfz119_1 := blk_frozen BK336.out 1; have hfz119_2 := blk_frozen BK336.out 2
                        have p10 : 0 ≤ (x6_1 : Int) := of_decide_eq_true (by first | (with_reducible assumption) | assumption)
                        have q10 : x6_1 < (a0_1.size : Int) := of_decide_eq_true (by first | (with_reducible assumption) | assumption)
                        have hx10 := bt_at a0_1 x6_1
                        replace p10 := eq_true p10
                        replace q10 := eq_true q10
                        obtain ⟨Ao120, co120, eo120⟩ := Kd.R_slice HO_4.out
                        subst eo120
                        go_wp2_with (first | ((with_reducible refine gate_builtin (b := .append) (xs := #[.tmp 58, .tmp 60]) rfl ?_); (try (refine gate_guard (by rfl) ?_; dsimp only)); at_builtin; refine Kd.R_append (Kd.int .u8) (w0 := w) w.heap.size rfl (.tmp 58) (.tmp 60) 39 5 (.int .u8 0) 1 rfl Tryd.underlying39 info5 rfl (by decide) (by omega) (.slice Ao120 x4_1.length co120) x4_1 (bt a0_1 x6_1) [.int .u8 (bt a0_1 x6_1)] (fun _ => True) (fun _ => False) rfl rfl ?aP (fun _ hk => hk.elim) ?aF ?aO ?aB ?aS ?aL ?_; (case aP => exact rfl); (case aB => exact (hbT HB.out)); (case aF => exact (fun _ _ => trivial)); (case aO => exact (by (with_reducible repeat (first | apply Kd.R_alloc | apply Kd.R_drewN | apply Kd.R_drew)); exact HO_4.out)); (case aS => exact (below_size (hbT HB.out))); (case aL => have := LMc116.out; omega); intro v370 w121 ho hb hg hat; rw [← Ny369.out] at ho; have n0_ := Aside0.mk (blk_grown (g := gb336) (o := .cells #[.int .i64 a0_0, .string a0_1, .int .i64 a0_2] 44 (0, 0)) (bkT BK336.out) hg (Kd.R_ne HO_4.out BK336.out (by decide))); have n1_ := Aside0.mk (blk_grown (g := gb337) (o := .cells #[.int .i64 0, .string (⟨#[]⟩ : ByteArray), .int .i64 0] 44 (0, 0)) (bkT BK337.out) hg (Kd.R_ne HO_4.out BK337.out (by decide))); have n2_ := Aside0.mk (blk_grown (g := gb338) (o := .cells #[.string (⟨#[40]⟩ : ByteArray), .string (⟨#[41]⟩ : ByteArray), .string (⟨#[91]⟩ : ByteArray), .string (⟨#[93]⟩ : ByteArray), .string (⟨#[123]⟩ : ByteArray), .string (⟨#[125]⟩ : ByteArray), .string (⟨#[44]⟩ : ByteArray), .string (⟨#[46]⟩ : ByteArray), .string (⟨#[46, 46]⟩ : ByteArray), .string (⟨#[43]⟩ : ByteArray), .string (⟨#[45]⟩ : ByteArray), .string (⟨#[42]⟩ : ByteArray), .string (⟨#[61]⟩ : ByteArray), .string (⟨#[33, 61]⟩ : ByteArray), .string (⟨#[60]⟩ : ByteArray), .string (⟨#[60, 61]⟩ : ByteArray), .string (⟨#[62]⟩ : ByteArray), .string (⟨#[62, 61]⟩ : ByteArray), .string (⟨#[33]⟩ : ByteArray)] 97 (0, 0)) (bkT BK338.out) hg (Kd.R_ne HO_4.out BK338.out (by decide))); have n3_ := Aside0.mk (hb); have n4_ := Aside0.mk (ho); clear BK336; clear BK337; clear BK338; clear HB; clear HO_4; have BK336 := n0_; have BK337 := n1_; have BK338 := n2_; have HB := n3_; have HO371 := n4_; clear n0_ n1_ n2_ n3_ n4_; clear ho hb hg hat))
                        go_roundg k1
                        case measure => have := HK1.out; omega
                        case rel => exact ⟨(y369), (wrap64 (x5_1 + (wrap64 (bt a0_1 x6_1)))), (wrap64 (x6_1 + 1)), (by first | rfl | (simp; done) | (simp [*]; done) | (simp; unfold wrap64; omega) | (congr 1; (try rw [Bool.eq_iff_iff]); simp [List.isEmpty_iff]; done)), (by first | rfl | (simp; done) | (simp [*]; done) | (simp; unfold wrap64; omega) | (congr 1; (try rw [Bool.eq_iff_iff]); simp [List.isEmpty_iff]; done)), H', ⟨by have := HK1.out; omega⟩, ⟨by (with_reducible repeat (first | apply Kd.R_alloc | apply Kd.R_drewN | apply Kd.R_drew)); exact HO371.out⟩, ⟨bkT BK336.out⟩, ⟨bkT BK337.out⟩, ⟨bkT BK338.out⟩, ⟨hbT HB.out⟩⟩
                      · as_aux_lemma =>
                        rw [if_neg c116] at H
                        exact absurd H (by simp)
                    · as_aux_lemma =>
                      rw [if_neg c115] at H
                      have c115b0 : decide (0 < (x4_1.length : Int)) = false := decide_eq_false c115
                      have c115b1 : decide (0 < x4_1.length) = false := decide_eq_false (by omega)
                      clear c115
                      have H' := Aside0.mk H
                      clear H; have hnb122 := NB336_337.out
                      have hnc122 := NB337_336.out; have hnb123 := NB336_338.out; have hnc123 := NB338_336.out; have hcz124_0 : wr.cell? ⟨gb336, 0, none⟩ = some (.int .i64 a0_0) := (blk_cell BK336.out 0).trans rfl; have hcz124_1 : wr.cell? ⟨gb336, 1, none⟩ = some (.string a0_1) := (blk_cell BK336.out 1).trans rfl; have hcz124_2 : wr.cell? ⟨gb336, 2, none⟩ = some (.int .i64 a0_2) := (blk_cell BK336.out 2).trans rfl; have hfz124_0 := blk_frozen BK336.out 0; have hfz124_1 := blk_frozen BK336.out 1; have hfz124_2 := blk_frozen BK336.out 2
                      have p10 : 0 ≤ (x6_1 : Int) := of_decide_eq_true (by first | (with_reducible assumption) | assumption)
                      have q10 : x6_1 < (a0_1.size : Int) := of_decide_eq_true (by first | (with_reducible assumption) | assumption)
                      have hx10 := bt_at a0_1 x6_1
                      replace p10 := eq_true p10
                      replace q10 := eq_true q10
                      obtain ⟨Ao125, co125, eo125⟩ := Kd.R_slice HO_4.out
                      subst eo125
                      go_wp2
                      go_roundg k1
                      case measure => have := HK1.out; omega
                      case rel => exact ⟨(x4_1), (wrap64 (x5_1 + (wrap64 (bt a0_1 x6_1)))), (wrap64 (x6_1 + 1)), (by first | rfl | (simp; done) | (simp [*]; done) | (simp; unfold wrap64; omega) | (congr 1; (try rw [Bool.eq_iff_iff]); simp [List.isEmpty_iff]; done)), (by first | rfl | (simp; done) | (simp [*]; done) | (simp; unfold wrap64; omega) | (congr 1; (try rw [Bool.eq_iff_iff]); simp [List.isEmpty_iff]; done)), H', ⟨by have := HK1.out; omega⟩, ⟨by (with_reducible repeat (first | apply Kd.R_alloc | apply Kd.R_drewN | apply Kd.R_drew)); exact HO_4.out⟩, ⟨bkT BK336.out⟩, ⟨bkT BK337.out⟩, ⟨bkT BK338.out⟩, ⟨hbT HB.out⟩⟩
                  · as_aux_lemma =>
                    rw [if_neg c114] at H
                    have c114b0 : decide ((bt a0_1 x6_1) ≤ 57) = false := decide_eq_false c114
                    clear c114
                    have H' := Aside0.mk H
                    clear H; have hnb126 := NB336_337.out
                    have hnc126 := NB337_336.out; have hnb127 := NB336_338.out; have hnc127 := NB338_336.out; have hcz128_0 : wr.cell? ⟨gb336, 0, none⟩ = some (.int .i64 a0_0) := (blk_cell BK336.out 0).trans rfl; have hcz128_1 : wr.cell? ⟨gb336, 1, none⟩ = some (.string a0_1) := (blk_cell BK336.out 1).trans rfl; have hcz128_2 : wr.cell? ⟨gb336, 2, none⟩ = some (.int .i64 a0_2) := (blk_cell BK336.out 2).trans rfl; have hfz128_0 := blk_frozen BK336.out 0; have hfz128_1 := blk_frozen BK336.out 1; have hfz128_2 := blk_frozen BK336.out 2
                    have p10 : 0 ≤ (x6_1 : Int) := of_decide_eq_true (by first | (with_reducible assumption) | assumption)
                    have q10 : x6_1 < (a0_1.size : Int) := of_decide_eq_true (by first | (with_reducible assumption) | assumption)
                    have hx10 := bt_at a0_1 x6_1
                    replace p10 := eq_true p10
                    replace q10 := eq_true q10
                    go_wp2
                    go_roundg k1
                    case measure => have := HK1.out; omega
                    case rel => exact ⟨(x4_1), (wrap64 (x5_1 + (wrap64 (bt a0_1 x6_1)))), (wrap64 (x6_1 + 1)), (by first | rfl | (simp; done) | (simp [*]; done) | (simp; unfold wrap64; omega) | (congr 1; (try rw [Bool.eq_iff_iff]); simp [List.isEmpty_iff]; done)), (by first | rfl | (simp; done) | (simp [*]; done) | (simp; unfold wrap64; omega) | (congr 1; (try rw [Bool.eq_iff_iff]); simp [List.isEmpty_iff]; done)), H', ⟨by have := HK1.out; omega⟩, ⟨by (with_reducible repeat (first | apply Kd.R_alloc | apply Kd.R_drewN | apply Kd.R_drew)); exact HO_4.out⟩, ⟨bkT BK336.out⟩, ⟨bkT BK337.out⟩, ⟨bkT BK338.out⟩, ⟨hbT HB.out⟩⟩
                · as_aux_lemma =>
                  rw [if_neg c113] at H
                  have c113b0 : decide (48 ≤ (bt a0_1 x6_1)) = false := decide_eq_false c113
                  clear c113
                  have H' := Aside0.mk H
                  clear H; have hnb129 := NB336_337.out
                  have hnc129 := NB337_336.out; have hnb130 := NB336_338.out; have hnc130 := NB338_336.out; have hcz131_0 : wr.cell? ⟨gb336, 0, none⟩ = some (.int .i64 a0_0) := (blk_cell BK336.out 0).trans rfl; have hcz131_1 : wr.cell? ⟨gb336, 1, none⟩ = some (.string a0_1) := (blk_cell BK336.out 1).trans rfl; have hcz131_2 : wr.cell? ⟨gb336, 2, none⟩ = some (.int .i64 a0_2) := (blk_cell BK336.out 2).trans rfl; have hfz131_0 := blk_frozen BK336.out 0; have hfz131_1 := blk_frozen BK336.out 1; have hfz131_2 := blk_frozen BK336.out 2
                  have p10 : 0 ≤ (x6_1 : Int) := of_decide_eq_true (by first | (with_reducible assumption) | assumption)
                  have q10 : x6_1 < (a0_1.size : Int) := of_decide_eq_true (by first | (with_reducible assumption) | assumption)
                  have hx10 := bt_at a0_1 x6_1
                  replace p10 := eq_true p10
                  replace q10 := eq_true q10
                  go_wp2
                  go_roundg k1
                  case measure => have := HK1.out; omega
                  case rel => exact ⟨(x4_1), (wrap64 (x5_1 + (wrap64 (bt a0_1 x6_1)))), (wrap64 (x6_1 + 1)), (by first | rfl | (simp; done) | (simp [*]; done) | (simp; unfold wrap64; omega) | (congr 1; (try rw [Bool.eq_iff_iff]); simp [List.isEmpty_iff]; done)), (by first | rfl | (simp; done) | (simp [*]; done) | (simp; unfold wrap64; omega) | (congr 1; (try rw [Bool.eq_iff_iff]); simp [List.isEmpty_iff]; done)), H', ⟨by have := HK1.out; omega⟩, ⟨by (with_reducible repeat (first | apply Kd.R_alloc | apply Kd.R_drewN | apply Kd.R_drew)); exact HO_4.out⟩, ⟨bkT BK336.out⟩, ⟨bkT BK337.out⟩, ⟨bkT BK338.out⟩, ⟨hbT HB.out⟩⟩
        · as_aux_lemma =>
          rw [if_neg c9] at H
          exact absurd H (by simp)
      · as_aux_lemma =>
        rw [if_neg c8] at H
        have c8b0 : decide (x6_1 < (a0_1.size : Int)) = false := decide_eq_false c8
        clear c8
        have HC132 := Aside0.mk H
        clear H; have hnb133 := NB336_337.out
        have hnc133 := NB337_336.out; have hnb134 := NB336_338.out; have hnc134 := NB338_336.out; have hcz135_0 : wr.cell? ⟨gb336, 0, none⟩ = some (.int .i64 a0_0) := (blk_cell BK336.out 0).trans rfl; have hcz135_1 : wr.cell? ⟨gb336, 1, none⟩ = some (.string a0_1) := (blk_cell BK336.out 1).trans rfl; have hcz135_2 : wr.cell? ⟨gb336, 2, none⟩ = some (.int .i64 a0_2) := (blk_cell BK336.out 2).trans rfl; have hfz135_0 := blk_frozen BK336.out 0; have hfz135_1 := blk_frozen BK336.out 1; have hfz135_2 := blk_frozen BK336.out 2
        go_upto_if 66 with (fail)
        go_cut [8] (fun v8 wc => ∃ (kq : Nat) (x8_131 : Int), v8 = .int .i64 x8_131 ∧ Aside0 (refrainlaw5_plainest.j1 kq x4_1 x5_1 x8_131 a0_0 a0_1 a0_2 (⟨#[40]⟩ : ByteArray) (⟨#[41]⟩ : ByteArray) (⟨#[91]⟩ : ByteArray) (⟨#[93]⟩ : ByteArray) (⟨#[123]⟩ : ByteArray) (⟨#[125]⟩ : ByteArray) (⟨#[44]⟩ : ByteArray) (⟨#[46]⟩ : ByteArray) (⟨#[46, 46]⟩ : ByteArray) (⟨#[43]⟩ : ByteArray) (⟨#[45]⟩ : ByteArray) (⟨#[42]⟩ : ByteArray) (⟨#[61]⟩ : ByteArray) (⟨#[33, 61]⟩ : ByteArray) (⟨#[60]⟩ : ByteArray) (⟨#[60, 61]⟩ : ByteArray) (⟨#[62]⟩ : ByteArray) (⟨#[62, 61]⟩ : ByteArray) (⟨#[33]⟩ : ByteArray) = some (r1, r2, r3)) ∧ Aside0 (kq ≤ k1) ∧ Aside0 (Kd.R (Kd.int .u8) 5 wc w.heap.size (fun _ => True) u4 x4_1) ∧ Aside0 (wc.heap[gb336]? = some (.cells #[.int .i64 a0_0, .string a0_1, .int .i64 a0_2] 44 (0, 0))) ∧ Aside0 (wc.heap[gb337]? = some (.cells #[.int .i64 0, .string (⟨#[]⟩ : ByteArray), .int .i64 0] 44 (0, 0))) ∧ Aside0 (wc.heap[gb338]? = some (.cells #[.string (⟨#[40]⟩ : ByteArray), .string (⟨#[41]⟩ : ByteArray), .string (⟨#[91]⟩ : ByteArray), .string (⟨#[93]⟩ : ByteArray), .string (⟨#[123]⟩ : ByteArray), .string (⟨#[125]⟩ : ByteArray), .string (⟨#[44]⟩ : ByteArray), .string (⟨#[46]⟩ : ByteArray), .string (⟨#[46, 46]⟩ : ByteArray), .string (⟨#[43]⟩ : ByteArray), .string (⟨#[45]⟩ : ByteArray), .string (⟨#[42]⟩ : ByteArray), .string (⟨#[61]⟩ : ByteArray), .string (⟨#[33, 61]⟩ : ByteArray), .string (⟨#[60]⟩ : ByteArray), .string (⟨#[60, 61]⟩ : ByteArray), .string (⟨#[62]⟩ : ByteArray), .string (⟨#[62, 61]⟩ : ByteArray), .string (⟨#[33]⟩ : ByteArray)] 97 (0, 0))) ∧ Aside0 (Below w.heap.size w wc))
        case first =>
          have H := HC132.out
          clear HC132
          by_cases c136 : (Int.tmod a0_0 4) < 0
          · as_aux_lemma =>
            rw [if_pos c136] at H
            have c136b0 : decide ((Int.tmod a0_0 4) < 0) = true := decide_eq_true c136
            clear c136
            (first | rw [c136b0] | (simp only [i64_w, i32_w, IntKind.wrap_u8, IntKind.wrap_u16, IntKind.wrap_u32]; rw [c136b0]) | skip)
            have H' := Aside0.mk H
            clear H
            go_wp2
            go_meet
            case rel => exact ⟨_, (wrap64 ((Int.tmod a0_0 4) + 4)), (by first | rfl | (simp; done) | (simp [*]; done) | (simp; unfold wrap64; omega) | (congr 1; (try rw [Bool.eq_iff_iff]); simp [List.isEmpty_iff]; done)), H', ⟨by have := HK1.out; first | omega | exact Nat.le_refl _⟩, ⟨by (with_reducible repeat (first | apply Kd.R_alloc | apply Kd.R_drewN | apply Kd.R_drew)); exact HO_4.out⟩, ⟨bkT BK336.out⟩, ⟨bkT BK337.out⟩, ⟨bkT BK338.out⟩, ⟨hbT HB.out⟩⟩
          · as_aux_lemma =>
            rw [if_neg c136] at H
            have c136b0 : decide ((Int.tmod a0_0 4) < 0) = false := decide_eq_false c136
            clear c136
            (first | rw [c136b0] | (simp only [i64_w, i32_w, IntKind.wrap_u8, IntKind.wrap_u16, IntKind.wrap_u32]; rw [c136b0]) | skip)
            have H' := Aside0.mk H
            clear H
            go_wp2
            go_meet
            case rel => exact ⟨_, (Int.tmod a0_0 4), (by first | rfl | (simp; done) | (simp [*]; done) | (simp; unfold wrap64; omega) | (congr 1; (try rw [Bool.eq_iff_iff]); simp [List.isEmpty_iff]; done)), H', ⟨by have := HK1.out; first | omega | exact Nat.le_refl _⟩, ⟨by (with_reducible repeat (first | apply Kd.R_alloc | apply Kd.R_drewN | apply Kd.R_drew)); exact HO_4.out⟩, ⟨bkT BK336.out⟩, ⟨bkT BK337.out⟩, ⟨bkT BK338.out⟩, ⟨hbT HB.out⟩⟩
        case rest =>
          clear HC132
          try clear c1
          try clear p1
          try clear q1
          try clear hx1
          try clear p2
          try clear c3
          try clear c4
          try clear c5
          try clear c6
          try clear p6
          try clear c7
          try clear c8
          try clear c8b0
          try clear c9
          try clear c10
          try clear p10
          try clear q10
          try clear hx10
          try clear c11
          try clear c11b0
          try clear c12
          try clear c13
          try clear c18
          try clear c18b0
          try clear c31
          try clear c31b0
          try clear c47
          try clear c48
          try clear c50
          try clear c50b0
          try clear c50b1
          try clear c51
          try clear c52
          try clear c53
          try clear c56
          try clear c56b0
          try clear c57
          try clear c57b0
          try clear c58
          try clear c58b0
          try clear c58b1
          try clear c59
          try clear c60
          try clear c61
          try clear p64
          try clear c65
          try clear c66
          try clear c69
          try clear c70
          try clear c72
          try clear c73
          try clear c75
          try clear c75b0
          try clear c76
          try clear c76b0
          try clear c77
          try clear c78
          try clear c79
          try clear c82
          try clear c82b0
          try clear c82b1
          try clear c83
          try clear c84
          try clear c85
          try clear c88
          try clear c88b0
          try clear c89
          try clear c89b0
          try clear c90
          try clear c90b0
          try clear c90b1
          try clear c91
          try clear c92
          try clear c93
          try clear c97
          try clear c98
          try clear c101
          try clear c102
          try clear c104
          try clear c105
          try clear c107
          try clear c107b0
          try clear c107b1
          try clear c108
          try clear c109
          try clear c110
          try clear c113
          try clear c113b0
          try clear c114
          try clear c114b0
          try clear c115
          try clear c115b0
          try clear c115b1
          try clear c116
          try clear c117
          try clear c118
          try clear c122
          try clear c123
          try clear c126
          try clear c127
          try clear c129
          try clear c130
          try clear c133
          try clear c134
          try clear c136
          try clear c136b0
          try clear hcz103_0
          try clear hcz103_1
          try clear hcz103_2
          try clear hcz106_0
          try clear hcz106_1
          try clear hcz106_2
          try clear hcz111_0
          try clear hcz111_1
          try clear hcz111_2
          try clear hcz119_0
          try clear hcz119_1
          try clear hcz119_2
          try clear hcz124_0
          try clear hcz124_1
          try clear hcz124_2
          try clear hcz128_0
          try clear hcz128_1
          try clear hcz128_2
          try clear hcz131_0
          try clear hcz131_1
          try clear hcz131_2
          try clear hcz135_0
          try clear hcz135_1
          try clear hcz135_2
          try clear hcz49_0
          try clear hcz49_1
          try clear hcz49_2
          try clear hcz54_0
          try clear hcz54_1
          try clear hcz54_2
          try clear hcz62_0
          try clear hcz62_1
          try clear hcz62_2
          try clear hcz67_0
          try clear hcz67_1
          try clear hcz67_2
          try clear hcz71_0
          try clear hcz71_1
          try clear hcz71_2
          try clear hcz74_0
          try clear hcz74_1
          try clear hcz74_2
          try clear hcz80_0
          try clear hcz80_1
          try clear hcz80_2
          try clear hcz86_0
          try clear hcz86_1
          try clear hcz86_2
          try clear hcz94_0
          try clear hcz94_1
          try clear hcz94_2
          try clear hcz99_0
          try clear hcz99_1
          try clear hcz99_2
          try clear hfz103_0
          try clear hfz103_1
          try clear hfz103_2
          try clear hfz106_0
          try clear hfz106_1
          try clear hfz106_2
          try clear hfz111_0
          try clear hfz111_1
          try clear hfz111_2
          try clear hfz119_0
          try clear hfz119_1
          try clear hfz119_2
          try clear hfz124_0
          try clear hfz124_1
          try clear hfz124_2
          try clear hfz128_0
          try clear hfz128_1
          try clear hfz128_2
          try clear hfz131_0
          try clear hfz131_1
          try clear hfz131_2
          try clear hfz135_0
          try clear hfz135_1
          try clear hfz135_2
          try clear hfz49_0
          try clear hfz49_1
          try clear hfz49_2
          try clear hfz54_0
          try clear hfz54_1
          try clear hfz54_2
          try clear hfz62_0
          try clear hfz62_1
          try clear hfz62_2
          try clear hfz67_0
          try clear hfz67_1
          try clear hfz67_2
          try clear hfz71_0
          try clear hfz71_1
          try clear hfz71_2
          try clear hfz74_0
          try clear hfz74_1
          try clear hfz74_2
          try clear hfz80_0
          try clear hfz80_1
          try clear hfz80_2
          try clear hfz86_0
          try clear hfz86_1
          try clear hfz86_2
          try clear hfz94_0
          try clear hfz94_1
          try clear hfz94_2
          try clear hfz99_0
          try clear hfz99_1
          try clear hfz99_2
          try clear p10
          try clear q10
          obtain ⟨kq, x8_131, rfl, HA, HJ131, HO_4, BK336, BK337, BK338, HB⟩ := hcut
          cases kq with
          | zero => (have HA2 := HA.out; clear HA; revert HA2; rw [refrainlaw5_plainest.j1_zero]; intro h_; cases h_)
          | succ kj131 =>
            have H := HA.out
            clear HA
            simp only [refrainlaw5_plainest.j1] at H
            by_cases c137 : x8_131 = 0
            · as_aux_lemma =>
              rw [if_pos c137] at H
              have c137b0 : (x8_131 == 0) = true := beq_iff_eq.mpr c137
              have c137b1 : (x8_131 != 0) = false := bne_eq_false_iff_eq.mpr c137
              clear c137
              by_cases c138 : (x4_1.length : Int) > 32
              · as_aux_lemma =>
                rw [if_pos c138] at H
                have c138b0 : decide (32 < (x4_1.length : Int)) = true := decide_eq_true c138
                have c138b1 : decide (32 < x4_1.length) = true := decide_eq_true (by omega)
                clear c138
                by_cases c139 : 32 ≤ (x4_1.length : Int)
                · as_aux_lemma =>
                  rw [if_pos c139] at H
                  have c139b0 := eq_true c139
                  have c139b1 : decide (32 ≤ (x4_1.length : Int)) = true := decide_eq_true c139
                  clear c139
                  obtain ⟨y372, hy372⟩ : ∃ y_ : List Int, y_ = (x4_1.take (32 : Int).toNat) := ⟨_, rfl⟩
                  replace H : (if (y372.length : Int) = 0 then (some (1, strOfNums (([120] : List Int)), 0)) else (some (1, strOfNums y372, 0))) = some (r1, r2, r3) := by first | (rw [hy372]; with_reducible exact H) | (have H2_ := (Option.bind_some _ _).symm.trans H; rw [hy372]; with_reducible exact H2_) | (have H2_ := (Option.bind_some _ _).symm.trans H; with_reducible exact H2_) | with_reducible exact H | (rw [hy372]; exact H) | exact H
                  have Ny372 := Aside0.mk hy372
                  clear hy372
                  by_cases c140 : (y372.length : Int) = 0
                  · exact absurd c140 (by rw [Ny372.out, List.length_take, show ((32 : Int).toNat) = 32 from rfl]; have h_ := of_decide_eq_true c139b1; omega)
                  · as_aux_lemma =>
                    rw [if_neg c140] at H
                    have c140b0 : ((y372.length : Int) == 0) = false := beq_eq_false_iff_ne.mpr c140
                    have c140b1 : ((y372.length : Int) != 0) = true := bne_iff_ne.mpr c140
                    have c140b2 : ¬ (y372 = []) := fun h_ => c140 (by rw [h_]; rfl)
                    simp only [Option.some.injEq, Prod.mk.injEq] at H
                    obtain ⟨rfl, rfl, rfl⟩ := H
                    obtain ⟨Ao150, co150, eo150⟩ := Kd.R_slice HO_4.out
                    subst eo150
                    have q151 : (32 : Int) ≤ ((x4_1.length : Int) : Int) := of_decide_eq_true (by first | (with_reducible assumption) | assumption)
                    obtain ⟨i0151, hi0151, _, hsz151, _⟩ := info_parts info5
                    have hcut151 := cut_to (P := Tryd.prog) 39 5 .i64 Tryd.underlying39 hi0151 Ao150 x4_1.length co150 32 (by omega) q151 (Kd.R_reads' HO_4.out).2.1
                    have hr151 := Kd.R_take (m := (32 : Int).toNat) HO_4.out (by omega)
                    have hy151 : y372.length = (32 : Int).toNat := (by rw [Ny372.out, List.length_take]; omega)
                    rw [← Ny372.out] at hr151
                    rw [← hy151] at hr151 hcut151
                    clear hy151 hi0151 hsz151 HO_4
                    have HO374 := Aside0.mk hr151
                    clear hr151
                    replace q151 := eq_true q151
                    have hcv152 := own_string (P := Tryd.prog) Tryd.underlying39 Tryd.underlying5 Tryd.underlying9 (Kd.own_of_R HO374.out)
                    have hnb153 := NB337_336.out; have hnc153 := NB336_337.out; have hnb154 := NB337_338.out; have hnc154 := NB338_337.out; have hcz155_0 : wc.cell? ⟨gb337, 0, none⟩ = some (.int .i64 0) := (blk_cell BK337.out 0).trans rfl; have hcz155_1 : wc.cell? ⟨gb337, 1, none⟩ = some (.string (⟨#[]⟩ : ByteArray)) := (blk_cell BK337.out 1).trans rfl; have hcz155_2 : wc.cell? ⟨gb337, 2, none⟩ = some (.int .i64 0) := (blk_cell BK337.out 2).trans rfl; have hfz155_0 := blk_frozen BK337.out 0; have hfz155_1 := blk_frozen BK337.out 1; have hfz155_2 := blk_frozen BK337.out 2
                    go_wp2
                    refine bodyPost_ret (results_cell_row rfl _ _ gb337 44 #[.int .i64 1, .string (strOfNums y372), .int .i64 0] (0, 0) _ rfl (by (with_reducible repeat (first | refine blk_drewN ?_ _ | refine blk_drew ?_ | refine blk_alloc ?_ _)); refine blk_put (cs := #[.int .i64 1, .string (strOfNums y372), .int .i64 0]) ?_ 2 _ rfl; (with_reducible repeat (first | refine blk_drewN ?_ _ | refine blk_drew ?_ | refine blk_alloc ?_ _)); refine blk_put (cs := #[.int .i64 1, .string (⟨#[]⟩ : ByteArray), .int .i64 0]) ?_ 1 _ rfl; (with_reducible repeat (first | refine blk_drewN ?_ _ | refine blk_drew ?_ | refine blk_alloc ?_ _)); refine blk_put (cs := #[.int .i64 0, .string (⟨#[]⟩ : ByteArray), .int .i64 0]) ?_ 0 _ rfl; (with_reducible repeat (first | refine blk_drewN ?_ _ | refine blk_drew ?_ | refine blk_alloc ?_ _)); exact BK337.out) Tryd.underlying44 rfl (by kernel_rfl)) rfl ?_
                    exact ⟨by first | rfl | (simp [errW_none, errW_some] <;> rfl) | (simp [*, errW_none, errW_some] <;> rfl), hbT HB.out⟩
                · as_aux_lemma =>
                  rw [if_neg c139] at H
                  exact absurd H (by simp)
              · as_aux_lemma =>
                rw [if_neg c138] at H
                have c138b0 : decide (32 < (x4_1.length : Int)) = false := decide_eq_false c138
                have c138b1 : decide (32 < x4_1.length) = false := decide_eq_false (by omega)
                clear c138
                by_cases c156 : (x4_1.length : Int) = 0
                · as_aux_lemma =>
                  rw [if_pos c156] at H
                  have c156b0 : ((x4_1.length : Int) == 0) = true := beq_iff_eq.mpr c156
                  have c156b1 : ((x4_1.length : Int) != 0) = false := bne_eq_false_iff_eq.mpr c156
                  clear c156
                  obtain ⟨y378, hy378⟩ : ∃ y_ : List Int, y_ = (([120] : List Int)) := ⟨_, rfl⟩
                  replace H : (some (1, strOfNums y378, 0)) = some (r1, r2, r3) := by first | (rw [hy378]; with_reducible exact H) | (have H2_ := (Option.bind_some _ _).symm.trans H; rw [hy378]; with_reducible exact H2_) | (have H2_ := (Option.bind_some _ _).symm.trans H; with_reducible exact H2_) | with_reducible exact H | (rw [hy378]; exact H) | exact H
                  have Ny378 := Aside0.mk hy378
                  clear hy378
                  simp only [Option.some.injEq, Prod.mk.injEq] at H
                  obtain ⟨rfl, rfl, rfl⟩ := H
                  obtain ⟨Ao157, co157, eo157⟩ := Kd.R_slice HO_4.out
                  subst eo157
                  have kc_ := fun (w : World) (C : Array Value) (n c : Nat) => Lib.run_convert_bytes_const (P := Tryd.prog) w 39 5 C n c Tryd.underlying39 Tryd.underlying5
                  go_upto_region 20 with (fail)
                  have hk_ : (wc.alloc (.cells #[.int .u8 120] 5 (1, 2))).heap[wc.heap.size]? = some (.cells #[.int .u8 120] 5 (1, 2)) := heap_alloc_new wc _
                  have hb_ : Below wc.heap.size wc (wc.alloc (.cells #[.int .u8 120] 5 (1, 2))) := below_alloc (Below.refl _ _) _
                  generalize wc.alloc (.cells #[.int .u8 120] 5 (1, 2)) = w158 at *
                  replace BK336 := bbA BK336 hb_; replace BK337 := bbA BK337 hb_; replace BK338 := bbA BK338 hb_
                  replace HB := bsA HB hb_
                  have hcv161 := conv_one (P := Tryd.prog) Tryd.underlying39 Tryd.underlying5 Tryd.underlying9 hk_ 1
                  rw [← Ny378.out] at hcv161
                  clear kc_ hk_ hb_
                  have hnb162 := NB337_336.out; have hnc162 := NB336_337.out; have hnb163 := NB337_338.out; have hnc163 := NB338_337.out; have hcz164_0 : w158.cell? ⟨gb337, 0, none⟩ = some (.int .i64 0) := (blk_cell BK337.out 0).trans rfl; have hcz164_1 : w158.cell? ⟨gb337, 1, none⟩ = some (.string (⟨#[]⟩ : ByteArray)) := (blk_cell BK337.out 1).trans rfl; have hcz164_2 : w158.cell? ⟨gb337, 2, none⟩ = some (.int .i64 0) := (blk_cell BK337.out 2).trans rfl; have hfz164_0 := blk_frozen BK337.out 0; have hfz164_1 := blk_frozen BK337.out 1; have hfz164_2 := blk_frozen BK337.out 2
                  go_wp2
                  refine bodyPost_ret (results_cell_row rfl _ _ gb337 44 #[.int .i64 1, .string (strOfNums y378), .int .i64 0] (0, 0) _ rfl (by (with_reducible repeat (first | refine blk_drewN ?_ _ | refine blk_drew ?_ | refine blk_alloc ?_ _)); refine blk_put (cs := #[.int .i64 1, .string (strOfNums y378), .int .i64 0]) ?_ 2 _ rfl; (with_reducible repeat (first | refine blk_drewN ?_ _ | refine blk_drew ?_ | refine blk_alloc ?_ _)); refine blk_put (cs := #[.int .i64 1, .string (⟨#[]⟩ : ByteArray), .int .i64 0]) ?_ 1 _ rfl; (with_reducible repeat (first | refine blk_drewN ?_ _ | refine blk_drew ?_ | refine blk_alloc ?_ _)); refine blk_put (cs := #[.int .i64 0, .string (⟨#[]⟩ : ByteArray), .int .i64 0]) ?_ 0 _ rfl; (with_reducible repeat (first | refine blk_drewN ?_ _ | refine blk_drew ?_ | refine blk_alloc ?_ _)); exact BK337.out) Tryd.underlying44 rfl (by kernel_rfl)) rfl ?_
                  exact ⟨by first | rfl | (simp [errW_none, errW_some] <;> rfl) | (simp [*, errW_none, errW_some] <;> rfl), hbT HB.out⟩
                · as_aux_lemma =>
                  rw [if_neg c156] at H
                  have c156b0 : ((x4_1.length : Int) == 0) = false := beq_eq_false_iff_ne.mpr c156
                  have c156b1 : ((x4_1.length : Int) != 0) = true := bne_iff_ne.mpr c156
                  have c156b2 : ¬ (x4_1 = []) := fun h_ => c156 (by rw [h_]; rfl)
                  simp only [Option.some.injEq, Prod.mk.injEq] at H
                  obtain ⟨rfl, rfl, rfl⟩ := H
                  obtain ⟨Ao165, co165, eo165⟩ := Kd.R_slice HO_4.out
                  subst eo165
                  have hcv166 := own_string (P := Tryd.prog) Tryd.underlying39 Tryd.underlying5 Tryd.underlying9 (Kd.own_of_R HO_4.out)
                  have hnb167 := NB337_336.out; have hnc167 := NB336_337.out; have hnb168 := NB337_338.out; have hnc168 := NB338_337.out; have hcz169_0 : wc.cell? ⟨gb337, 0, none⟩ = some (.int .i64 0) := (blk_cell BK337.out 0).trans rfl; have hcz169_1 : wc.cell? ⟨gb337, 1, none⟩ = some (.string (⟨#[]⟩ : ByteArray)) := (blk_cell BK337.out 1).trans rfl; have hcz169_2 : wc.cell? ⟨gb337, 2, none⟩ = some (.int .i64 0) := (blk_cell BK337.out 2).trans rfl; have hfz169_0 := blk_frozen BK337.out 0; have hfz169_1 := blk_frozen BK337.out 1; have hfz169_2 := blk_frozen BK337.out 2
                  go_wp2
                  refine bodyPost_ret (results_cell_row rfl _ _ gb337 44 #[.int .i64 1, .string (strOfNums x4_1), .int .i64 0] (0, 0) _ rfl (by (with_reducible repeat (first | refine blk_drewN ?_ _ | refine blk_drew ?_ | refine blk_alloc ?_ _)); refine blk_put (cs := #[.int .i64 1, .string (strOfNums x4_1), .int .i64 0]) ?_ 2 _ rfl; (with_reducible repeat (first | refine blk_drewN ?_ _ | refine blk_drew ?_ | refine blk_alloc ?_ _)); refine blk_put (cs := #[.int .i64 1, .string (⟨#[]⟩ : ByteArray), .int .i64 0]) ?_ 1 _ rfl; (with_reducible repeat (first | refine blk_drewN ?_ _ | refine blk_drew ?_ | refine blk_alloc ?_ _)); refine blk_put (cs := #[.int .i64 0, .string (⟨#[]⟩ : ByteArray), .int .i64 0]) ?_ 0 _ rfl; (with_reducible repeat (first | refine blk_drewN ?_ _ | refine blk_drew ?_ | refine blk_alloc ?_ _)); exact BK337.out) Tryd.underlying44 rfl (by kernel_rfl)) rfl ?_
                  exact ⟨by first | rfl | (simp [errW_none, errW_some] <;> rfl) | (simp [*, errW_none, errW_some] <;> rfl), hbT HB.out⟩
            · as_aux_lemma =>
              rw [if_neg c137] at H
              have c137b0 : (x8_131 == 0) = false := beq_eq_false_iff_ne.mpr c137
              have c137b1 : (x8_131 != 0) = true := bne_iff_ne.mpr c137
              by_cases c170 : x8_131 = 1
              · as_aux_lemma =>
                rw [if_pos c170] at H
                have c170b0 : (x8_131 == 1) = true := beq_iff_eq.mpr c170
                have c170b1 : (x8_131 != 1) = false := bne_eq_false_iff_eq.mpr c170
                clear c170
                obtain ⟨y381, hy381⟩ : ∃ y_ : List Int, y_ = (([(wrap64 (49 + (Int.tmod x5_1 9))) % 256, (wrap64 (48 + (Int.tmod x5_1 10))) % 256, 48 + ((a0_1.size : Int) % 10)] : List Int)) := ⟨_, rfl⟩
                replace H : (if 0 ≤ (wrap64 (1 + (Int.tmod x5_1 3))) then (if (wrap64 (1 + (Int.tmod x5_1 3))) ≤ ((strOfNums y381).size : Int) then (some (2, (strOfNums y381).extract 0 ((wrap64 (1 + (Int.tmod x5_1 3))) : Int).toNat, 0)) else (none)) else (none)) = some (r1, r2, r3) := by first | (rw [hy381]; with_reducible exact H) | (have H2_ := (Option.bind_some _ _).symm.trans H; rw [hy381]; with_reducible exact H2_) | (have H2_ := (Option.bind_some _ _).symm.trans H; with_reducible exact H2_) | with_reducible exact H | (rw [hy381]; exact H) | exact H
                have Ny381 := Aside0.mk hy381
                clear hy381
                obtain ⟨ji171, hji171⟩ : ∃ j_ : Int, (wrap64 (1 + (Int.tmod x5_1 3))) = j_ := ⟨_, rfl⟩
                replace H : (if 0 ≤ (ji171) then (if (ji171) ≤ ((strOfNums y381).size : Int) then (some (2, (strOfNums y381).extract 0 ((ji171) : Int).toNat, 0)) else (none)) else (none)) = some (r1, r2, r3) := by first | (rw [hji171] at H; exact H) | (simp only [hji171] at H ⊢; exact H)
                have hji171w : (IntKind.i64.wrap (1 + (Int.tmod x5_1 3))) = ji171 := (i64_w _).trans hji171
                by_cases c172 : 0 ≤ (ji171)
                · as_aux_lemma =>
                  rw [if_pos c172] at H
                  have c172b0 := eq_true c172
                  have c172b1 : decide (0 ≤ (ji171)) = true := decide_eq_true c172
                  clear c172
                  by_cases c173 : (ji171) ≤ ((strOfNums y381).size : Int)
                  · as_aux_lemma =>
                    rw [if_pos c173] at H
                    have c173b0 := eq_true c173
                    have c173b1 : decide ((ji171) ≤ ((strOfNums y381).size : Int)) = true := decide_eq_true c173
                    clear c173
                    simp only [Option.some.injEq, Prod.mk.injEq] at H
                    obtain ⟨rfl, rfl, rfl⟩ := H
                    have hnb174 := NB336_337.out; have hnc174 := NB337_336.out; have hnb175 := NB336_338.out; have hnc175 := NB338_336.out; have hcz176_0 : wc.cell? ⟨gb336, 0, none⟩ = some (.int .i64 a0_0) := (blk_cell BK336.out 0).trans rfl; have hcz176_1 : wc.cell? ⟨gb336, 1, none⟩ = some (.string a0_1) := (blk_cell BK336.out 1).trans rfl; have hcz176_2 : wc.cell? ⟨gb336, 2, none⟩ = some (.int .i64 a0_2) := (blk_cell BK336.out 2).trans rfl; have hfz176_0 := blk_frozen BK336.out 0; have hfz176_1 := blk_frozen BK336.out 1; have hfz176_2 := blk_frozen BK336.out 2
                    go_wp2_with (first | ((with_reducible refine gate_dst (N := 101) rfl ?_); (try (refine gate_guard (by rfl) ?_; dsimp only)); refine Kd.R_lit (Kd.int .u8) _ 5 ?hg (N := 101) ?hd (xs := ([(wrap64 (49 + (Int.tmod x5_1 9))) % 256, (wrap64 (48 + (Int.tmod x5_1 10))) % 256, 48 + ((a0_1.size : Int) % 10)] : List Int)) (inner := [.int .u8 ((wrap64 (49 + (Int.tmod x5_1 9))) % 256), .int .u8 ((wrap64 (48 + (Int.tmod x5_1 10))) % 256), .int .u8 (48 + ((a0_1.size : Int) % 10))]) (ok := fun _ => True) (okp := fun _ => True) ?hr ?hp (fun _ hk => hk) trivial (Below.refl _ _) (Nat.le_refl _) (by simp) ?_; (case hd => rfl); (case hg => rfl); (case hr => first | (go_simp; done) | (go_simp; rfl)); (case hp => exact (Reps.one (show Kd.M (Kd.int .u8) _ _ _ ((wrap64 (49 + (Int.tmod x5_1 9))) % 256) [.int .u8 ((wrap64 (49 + (Int.tmod x5_1 9))) % 256)] from rfl) (Reps.one (show Kd.M (Kd.int .u8) _ _ _ ((wrap64 (48 + (Int.tmod x5_1 10))) % 256) [.int .u8 ((wrap64 (48 + (Int.tmod x5_1 10))) % 256)] from rfl) (Reps.one (show Kd.M (Kd.int .u8) _ _ _ (48 + ((a0_1.size : Int) % 10)) [.int .u8 (48 + ((a0_1.size : Int) % 10))] from rfl) (Reps.none _ _))))); intro v382 w177 ho178 hb hg_ hnew_; clear hg_ hnew_; (first | rw [← Ny381.out] at ho178 | (simp only [Int.reduceToNat] at ho178; rw [← Ny381.out] at ho178)); have HO383 := Aside0.mk (Kd.R_lower (Kd.R_new' ho178 (Kd.R_lt (by (with_reducible repeat (first | apply Kd.R_alloc | apply Kd.R_drewN | apply Kd.R_drew)); exact HO_4.out))) (below_size (hbT HB.out))); replace HO_4 := Aside0.mk (Kd.R_elder' (by (with_reducible repeat (first | apply Kd.R_alloc | apply Kd.R_drewN | apply Kd.R_drew)); exact HO_4.out) (Kd.R_base ho178) hb); replace BK336 := bbA BK336 hb; replace BK337 := bbA BK337 hb; replace BK338 := bbA BK338 hb; replace HB := bsA HB hb; clear hb ho178; have hcv179 := own_string (P := Tryd.prog) Tryd.underlying39 Tryd.underlying5 Tryd.underlying9 (Kd.own_of_R HO383.out); have hnb180 := NB337_338.out; have hnc180 := NB338_337.out; have hcz181_0 : w177.cell? ⟨gb337, 0, none⟩ = some (.int .i64 0) := (blk_cell BK337.out 0).trans rfl; have hcz181_1 : w177.cell? ⟨gb337, 1, none⟩ = some (.string (⟨#[]⟩ : ByteArray)) := (blk_cell BK337.out 1).trans rfl; have hcz181_2 : w177.cell? ⟨gb337, 2, none⟩ = some (.int .i64 0) := (blk_cell BK337.out 2).trans rfl; have hfz181_0 := blk_frozen BK337.out 0; have hfz181_1 := blk_frozen BK337.out 1; have hfz181_2 := blk_frozen BK337.out 2))
                    refine bodyPost_ret (results_cell_row rfl _ _ gb337 44 #[.int .i64 2, .string ((strOfNums y381).extract 0 ((ji171) : Int).toNat), .int .i64 0] (0, 0) _ rfl (by (with_reducible repeat (first | refine blk_drewN ?_ _ | refine blk_drew ?_ | refine blk_alloc ?_ _)); refine blk_put (cs := #[.int .i64 2, .string ((strOfNums y381).extract 0 ((ji171) : Int).toNat), .int .i64 0]) ?_ 2 _ rfl; (with_reducible repeat (first | refine blk_drewN ?_ _ | refine blk_drew ?_ | refine blk_alloc ?_ _)); refine blk_put (cs := #[.int .i64 2, .string (⟨#[]⟩ : ByteArray), .int .i64 0]) ?_ 1 _ rfl; (with_reducible repeat (first | refine blk_drewN ?_ _ | refine blk_drew ?_ | refine blk_alloc ?_ _)); refine blk_put (cs := #[.int .i64 0, .string (⟨#[]⟩ : ByteArray), .int .i64 0]) ?_ 0 _ rfl; (with_reducible repeat (first | refine blk_drewN ?_ _ | refine blk_drew ?_ | refine blk_alloc ?_ _)); exact BK337.out) Tryd.underlying44 rfl (by kernel_rfl)) rfl ?_
                    exact ⟨by first | rfl | (simp [errW_none, errW_some] <;> rfl) | (simp only [← hji171]; first | rfl | (simp [errW_none, errW_some] <;> rfl)) | (simp [*, errW_none, errW_some] <;> rfl), hbT HB.out⟩
                  · as_aux_lemma =>
                    rw [if_neg c173] at H
                    exact absurd H (by simp)
                · as_aux_lemma =>
                  rw [if_neg c172] at H
                  exact absurd H (by simp)
              · as_aux_lemma =>
                rw [if_neg c170] at H
                have c170b0 : (x8_131 == 1) = false := beq_eq_false_iff_ne.mpr c170
                have c170b1 : (x8_131 != 1) = true := bne_iff_ne.mpr c170
                by_cases c182 : x8_131 = 2
                · as_aux_lemma =>
                  rw [if_pos c182] at H
                  have c182b0 : (x8_131 == 2) = true := beq_iff_eq.mpr c182
                  have c182b1 : (x8_131 != 2) = false := bne_eq_false_iff_eq.mpr c182
                  clear c182
                  by_cases c183 : (a0_1.size : Int) > 200
                  · as_aux_lemma =>
                    rw [if_pos c183] at H
                    have c183b0 : decide (200 < (a0_1.size : Int)) = true := decide_eq_true c183
                    have c183b1 : decide (200 < a0_1.size) = true := decide_eq_true (by omega)
                    clear c183
                    by_cases c184 : 0 ≤ 200
                    · as_aux_lemma =>
                      rw [if_pos c184] at H
                      have c184b0 := eq_true c184
                      have c184b1 : decide (0 ≤ 200) = true := decide_eq_true c184
                      clear c184
                      by_cases c185 : 200 ≤ (a0_1.size : Int)
                      · as_aux_lemma =>
                        rw [if_pos c185] at H
                        have c185b0 := eq_true c185
                        have c185b1 : decide (200 ≤ (a0_1.size : Int)) = true := decide_eq_true c185
                        clear c185
                        simp only [Option.some.injEq, Prod.mk.injEq] at H
                        obtain ⟨rfl, rfl, rfl⟩ := H
                        have hnb186 := NB336_337.out; have hnc186 := NB337_336.out; have hnb187 := NB336_338.out; have hnc187 := NB338_336.out; have hcz188_0 : wc.cell? ⟨gb336, 0, none⟩ = some (.int .i64 a0_0) := (blk_cell BK336.out 0).trans rfl; have hcz188_1 : wc.cell? ⟨gb336, 1, none⟩ = some (.string a0_1) := (blk_cell BK336.out 1).trans rfl; have hcz188_2 : wc.cell? ⟨gb336, 2, none⟩ = some (.int .i64 a0_2) := (blk_cell BK336.out 2).trans rfl; have hfz188_0 := blk_frozen BK336.out 0; have hfz188_1 := blk_frozen BK336.out 1; have hfz188_2 := blk_frozen BK336.out 2; have hnb189 := NB337_338.out; have hnc189 := NB338_337.out; have hcz190_0 : wc.cell? ⟨gb337, 0, none⟩ = some (.int .i64 0) := (blk_cell BK337.out 0).trans rfl; have hcz190_1 : wc.cell? ⟨gb337, 1, none⟩ = some (.string (⟨#[]⟩ : ByteArray)) := (blk_cell BK337.out 1).trans rfl; have hcz190_2 : wc.cell? ⟨gb337, 2, none⟩ = some (.int .i64 0) := (blk_cell BK337.out 2).trans rfl; have hfz190_0 := blk_frozen BK337.out 0; have hfz190_1 := blk_frozen BK337.out 1; have hfz190_2 := blk_frozen BK337.out 2
                        go_wp2
                        refine bodyPost_ret (results_cell_row rfl _ _ gb337 44 #[.int .i64 3, .string (a0_1.extract 0 200), .int .i64 0] (0, 0) _ rfl (by (with_reducible repeat (first | refine blk_drewN ?_ _ | refine blk_drew ?_ | refine blk_alloc ?_ _)); refine blk_put (cs := #[.int .i64 3, .string (a0_1.extract 0 200), .int .i64 0]) ?_ 2 _ rfl; (with_reducible repeat (first | refine blk_drewN ?_ _ | refine blk_drew ?_ | refine blk_alloc ?_ _)); refine blk_put (cs := #[.int .i64 3, .string (⟨#[]⟩ : ByteArray), .int .i64 0]) ?_ 1 _ rfl; (with_reducible repeat (first | refine blk_drewN ?_ _ | refine blk_drew ?_ | refine blk_alloc ?_ _)); refine blk_put (cs := #[.int .i64 0, .string (⟨#[]⟩ : ByteArray), .int .i64 0]) ?_ 0 _ rfl; (with_reducible repeat (first | refine blk_drewN ?_ _ | refine blk_drew ?_ | refine blk_alloc ?_ _)); exact BK337.out) Tryd.underlying44 rfl (by kernel_rfl)) rfl ?_
                        exact ⟨by first | rfl | (simp [errW_none, errW_some] <;> rfl) | (simp [*, errW_none, errW_some] <;> rfl), hbT HB.out⟩
                      · as_aux_lemma =>
                        rw [if_neg c185] at H
                        exact absurd H (by simp)
                    · as_aux_lemma =>
                      rw [if_neg c184] at H
                      exact absurd H (by simp)
                  · as_aux_lemma =>
                    rw [if_neg c183] at H
                    have c183b0 : decide (200 < (a0_1.size : Int)) = false := decide_eq_false c183
                    have c183b1 : decide (200 < a0_1.size) = false := decide_eq_false (by omega)
                    clear c183
                    simp only [Option.some.injEq, Prod.mk.injEq] at H
                    obtain ⟨rfl, rfl, rfl⟩ := H
                    have hnb191 := NB336_337.out; have hnc191 := NB337_336.out; have hnb192 := NB336_338.out; have hnc192 := NB338_336.out; have hcz193_0 : wc.cell? ⟨gb336, 0, none⟩ = some (.int .i64 a0_0) := (blk_cell BK336.out 0).trans rfl; have hcz193_1 : wc.cell? ⟨gb336, 1, none⟩ = some (.string a0_1) := (blk_cell BK336.out 1).trans rfl; have hcz193_2 : wc.cell? ⟨gb336, 2, none⟩ = some (.int .i64 a0_2) := (blk_cell BK336.out 2).trans rfl; have hfz193_0 := blk_frozen BK336.out 0; have hfz193_1 := blk_frozen BK336.out 1; have hfz193_2 := blk_frozen BK336.out 2; have hnb194 := NB337_338.out; have hnc194 := NB338_337.out; have hcz195_0 : wc.cell? ⟨gb337, 0, none⟩ = some (.int .i64 0) := (blk_cell BK337.out 0).trans rfl; have hcz195_1 : wc.cell? ⟨gb337, 1, none⟩ = some (.string (⟨#[]⟩ : ByteArray)) := (blk_cell BK337.out 1).trans rfl; have hcz195_2 : wc.cell? ⟨gb337, 2, none⟩ = some (.int .i64 0) := (blk_cell BK337.out 2).trans rfl; have hfz195_0 := blk_frozen BK337.out 0; have hfz195_1 := blk_frozen BK337.out 1; have hfz195_2 := blk_frozen BK337.out 2
                    go_wp2
                    refine bodyPost_ret (results_cell_row rfl _ _ gb337 44 #[.int .i64 3, .string a0_1, .int .i64 0] (0, 0) _ rfl (by (with_reducible repeat (first | refine blk_drewN ?_ _ | refine blk_drew ?_ | refine blk_alloc ?_ _)); refine blk_put (cs := #[.int .i64 3, .string a0_1, .int .i64 0]) ?_ 2 _ rfl; (with_reducible repeat (first | refine blk_drewN ?_ _ | refine blk_drew ?_ | refine blk_alloc ?_ _)); refine blk_put (cs := #[.int .i64 3, .string (⟨#[]⟩ : ByteArray), .int .i64 0]) ?_ 1 _ rfl; (with_reducible repeat (first | refine blk_drewN ?_ _ | refine blk_drew ?_ | refine blk_alloc ?_ _)); refine blk_put (cs := #[.int .i64 0, .string (⟨#[]⟩ : ByteArray), .int .i64 0]) ?_ 0 _ rfl; (with_reducible repeat (first | refine blk_drewN ?_ _ | refine blk_drew ?_ | refine blk_alloc ?_ _)); exact BK337.out) Tryd.underlying44 rfl (by kernel_rfl)) rfl ?_
                    exact ⟨by first | rfl | (simp [errW_none, errW_some] <;> rfl) | (simp [*, errW_none, errW_some] <;> rfl), hbT HB.out⟩
                · as_aux_lemma =>
                  rw [if_neg c182] at H
                  have c182b0 : (x8_131 == 2) = false := beq_eq_false_iff_ne.mpr c182
                  have c182b1 : (x8_131 != 2) = true := bne_iff_ne.mpr c182
                  obtain ⟨ji196, hji196⟩ : ∃ j_ : Int, (Int.tmod x5_1 19) = j_ := ⟨_, rfl⟩
                  replace H : (if 0 ≤ (ji196) then (if (ji196) < 19 then (some (4, (arrAt ([(⟨#[40]⟩ : ByteArray), (⟨#[41]⟩ : ByteArray), (⟨#[91]⟩ : ByteArray), (⟨#[93]⟩ : ByteArray), (⟨#[123]⟩ : ByteArray), (⟨#[125]⟩ : ByteArray), (⟨#[44]⟩ : ByteArray), (⟨#[46]⟩ : ByteArray), (⟨#[46, 46]⟩ : ByteArray), (⟨#[43]⟩ : ByteArray), (⟨#[45]⟩ : ByteArray), (⟨#[42]⟩ : ByteArray), (⟨#[61]⟩ : ByteArray), (⟨#[33, 61]⟩ : ByteArray), (⟨#[60]⟩ : ByteArray), (⟨#[60, 61]⟩ : ByteArray), (⟨#[62]⟩ : ByteArray), (⟨#[62, 61]⟩ : ByteArray), (⟨#[33]⟩ : ByteArray)] : List ByteArray) (ji196)), 0)) else (none)) else (none)) = some (r1, r2, r3) := by first | (rw [hji196] at H; exact H) | (simp only [hji196] at H ⊢; exact H)
                  by_cases c197 : 0 ≤ (ji196)
                  · as_aux_lemma =>
                    rw [if_pos c197] at H
                    have c197b0 : decide (0 ≤ (ji196)) = true := decide_eq_true c197
                    clear c197
                    by_cases c198 : (ji196) < 19
                    · as_aux_lemma =>
                      rw [if_pos c198] at H
                      have c198b0 : decide ((ji196) < 19) = true := decide_eq_true c198
                      clear c198
                      simp only [Option.some.injEq, Prod.mk.injEq] at H
                      obtain ⟨rfl, rfl, rfl⟩ := H
                      have hnb199 := NB338_336.out; have hnc199 := NB336_338.out; have hnb200 := NB338_337.out; have hnc200 := NB337_338.out; have hcz201_0 : wc.cell? ⟨gb338, 0, none⟩ = some (.string (⟨#[40]⟩ : ByteArray)) := (blk_cell BK338.out 0).trans rfl; have hcz201_1 : wc.cell? ⟨gb338, 1, none⟩ = some (.string (⟨#[41]⟩ : ByteArray)) := (blk_cell BK338.out 1).trans rfl; have hcz201_2 : wc.cell? ⟨gb338, 2, none⟩ = some (.string (⟨#[91]⟩ : ByteArray)) := (blk_cell BK338.out 2).trans rfl; have hcz201_3 : wc.cell? ⟨gb338, 3, none⟩ = some (.string (⟨#[93]⟩ : ByteArray)) := (blk_cell BK338.out 3).trans rfl; have hcz201_4 : wc.cell? ⟨gb338, 4, none⟩ = some (.string (⟨#[123]⟩ : ByteArray)) := (blk_cell BK338.out 4).trans rfl; have hcz201_5 : wc.cell? ⟨gb338, 5, none⟩ = some (.string (⟨#[125]⟩ : ByteArray)) := (blk_cell BK338.out 5).trans rfl; have hcz201_6 : wc.cell? ⟨gb338, 6, none⟩ = some (.string (⟨#[44]⟩ : ByteArray)) := (blk_cell BK338.out 6).trans rfl; have hcz201_7 : wc.cell? ⟨gb338, 7, none⟩ = some (.string (⟨#[46]⟩ : ByteArray)) := (blk_cell BK338.out 7).trans rfl; have hcz201_8 : wc.cell? ⟨gb338, 8, none⟩ = some (.string (⟨#[46, 46]⟩ : ByteArray)) := (blk_cell BK338.out 8).trans rfl; have hcz201_9 : wc.cell? ⟨gb338, 9, none⟩ = some (.string (⟨#[43]⟩ : ByteArray)) := (blk_cell BK338.out 9).trans rfl; have hcz201_10 : wc.cell? ⟨gb338, 10, none⟩ = some (.string (⟨#[45]⟩ : ByteArray)) := (blk_cell BK338.out 10).trans rfl; have hcz201_11 : wc.cell? ⟨gb338, 11, none⟩ = some (.string (⟨#[42]⟩ : ByteArray)) := (blk_cell BK338.out 11).trans rfl; have hcz201_12 : wc.cell? ⟨gb338, 12, none⟩ = some (.string (⟨#[61]⟩ : ByteArray)) := (blk_cell BK338.out 12).trans rfl; have hcz201_13 : wc.cell? ⟨gb338, 13, none⟩ = some (.string (⟨#[33, 61]⟩ : ByteArray)) := (blk_cell BK338.out 13).trans rfl; have hcz201_14 : wc.cell? ⟨gb338, 14, none⟩ = some (.string (⟨#[60]⟩ : ByteArray)) := (blk_cell BK338.out 14).trans rfl; have hcz201_15 : wc.cell? ⟨gb338, 15, none⟩ = some (.string (⟨#[60, 61]⟩ : ByteArray)) := (blk_cell BK338.out 15).trans rfl; have hcz201_16 : wc.cell? ⟨gb338, 16, none⟩ = some (.string (⟨#[62]⟩ : ByteArray)) := (blk_cell BK338.out 16).trans rfl; have hcz201_17 : wc.cell? ⟨gb338, 17, none⟩ = some (.string (⟨#[62, 61]⟩ : ByteArray)) := (blk_cell BK338.out 17).trans rfl; have hcz201_18 : wc.cell? ⟨gb338, 18, none⟩ = some (.string (⟨#[33]⟩ : ByteArray)) := (blk_cell BK338.out 18).trans rfl; have hfz201_0 := blk_frozen BK338.out 0; have hfz201_1 := blk_frozen BK338.out 1; have hfz201_2 := blk_frozen BK338.out 2; have hfz201_3 := blk_frozen BK338.out 3; have hfz201_4 := blk_frozen BK338.out 4; have hfz201_5 := blk_frozen BK338.out 5; have hfz201_6 := blk_frozen BK338.out 6; have hfz201_7 := blk_frozen BK338.out 7; have hfz201_8 := blk_frozen BK338.out 8; have hfz201_9 := blk_frozen BK338.out 9; have hfz201_10 := blk_frozen BK338.out 10; have hfz201_11 := blk_frozen BK338.out 11; have hfz201_12 := blk_frozen BK338.out 12; have hfz201_13 := blk_frozen BK338.out 13; have hfz201_14 := blk_frozen BK338.out 14; have hfz201_15 := blk_frozen BK338.out 15; have hfz201_16 := blk_frozen BK338.out 16; have hfz201_17 := blk_frozen BK338.out 17; have hfz201_18 := blk_frozen BK338.out 18
                      have hpar202 : 0 ≤ ((ji196) : Int) := of_decide_eq_true (by first | (with_reducible assumption) | assumption)
                      have hqar202 : ((ji196) : Int) < 19 := of_decide_eq_true (by first | (with_reducible assumption) | assumption)
                      have hxar202 : wc.cell? ⟨gb338, ((ji196) : Int).toNat, none⟩ = some (.string (arrAt ([(⟨#[40]⟩ : ByteArray), (⟨#[41]⟩ : ByteArray), (⟨#[91]⟩ : ByteArray), (⟨#[93]⟩ : ByteArray), (⟨#[123]⟩ : ByteArray), (⟨#[125]⟩ : ByteArray), (⟨#[44]⟩ : ByteArray), (⟨#[46]⟩ : ByteArray), (⟨#[46, 46]⟩ : ByteArray), (⟨#[43]⟩ : ByteArray), (⟨#[45]⟩ : ByteArray), (⟨#[42]⟩ : ByteArray), (⟨#[61]⟩ : ByteArray), (⟨#[33, 61]⟩ : ByteArray), (⟨#[60]⟩ : ByteArray), (⟨#[60, 61]⟩ : ByteArray), (⟨#[62]⟩ : ByteArray), (⟨#[62, 61]⟩ : ByteArray), (⟨#[33]⟩ : ByteArray)] : List ByteArray) (ji196))) := (blk_cell BK338.out _).trans (arr_at [(⟨#[40]⟩ : ByteArray), (⟨#[41]⟩ : ByteArray), (⟨#[91]⟩ : ByteArray), (⟨#[93]⟩ : ByteArray), (⟨#[123]⟩ : ByteArray), (⟨#[125]⟩ : ByteArray), (⟨#[44]⟩ : ByteArray), (⟨#[46]⟩ : ByteArray), (⟨#[46, 46]⟩ : ByteArray), (⟨#[43]⟩ : ByteArray), (⟨#[45]⟩ : ByteArray), (⟨#[42]⟩ : ByteArray), (⟨#[61]⟩ : ByteArray), (⟨#[33, 61]⟩ : ByteArray), (⟨#[60]⟩ : ByteArray), (⟨#[60, 61]⟩ : ByteArray), (⟨#[62]⟩ : ByteArray), (⟨#[62, 61]⟩ : ByteArray), (⟨#[33]⟩ : ByteArray)] _ (by simp; omega))
                      replace hpar202 := eq_true hpar202
                      replace hqar202 := eq_true hqar202
                      have hnb203 := NB337_336.out; have hnc203 := NB336_337.out; have hcz204_0 : wc.cell? ⟨gb337, 0, none⟩ = some (.int .i64 0) := (blk_cell BK337.out 0).trans rfl; have hcz204_1 : wc.cell? ⟨gb337, 1, none⟩ = some (.string (⟨#[]⟩ : ByteArray)) := (blk_cell BK337.out 1).trans rfl; have hcz204_2 : wc.cell? ⟨gb337, 2, none⟩ = some (.int .i64 0) := (blk_cell BK337.out 2).trans rfl; have hfz204_0 := blk_frozen BK337.out 0; have hfz204_1 := blk_frozen BK337.out 1; have hfz204_2 := blk_frozen BK337.out 2
                      go_wp2
                      refine bodyPost_ret (results_cell_row rfl _ _ gb337 44 #[.int .i64 4, .string (arrAt ([(⟨#[40]⟩ : ByteArray), (⟨#[41]⟩ : ByteArray), (⟨#[91]⟩ : ByteArray), (⟨#[93]⟩ : ByteArray), (⟨#[123]⟩ : ByteArray), (⟨#[125]⟩ : ByteArray), (⟨#[44]⟩ : ByteArray), (⟨#[46]⟩ : ByteArray), (⟨#[46, 46]⟩ : ByteArray), (⟨#[43]⟩ : ByteArray), (⟨#[45]⟩ : ByteArray), (⟨#[42]⟩ : ByteArray), (⟨#[61]⟩ : ByteArray), (⟨#[33, 61]⟩ : ByteArray), (⟨#[60]⟩ : ByteArray), (⟨#[60, 61]⟩ : ByteArray), (⟨#[62]⟩ : ByteArray), (⟨#[62, 61]⟩ : ByteArray), (⟨#[33]⟩ : ByteArray)] : List ByteArray) (ji196)), .int .i64 0] (0, 0) _ rfl (by (with_reducible repeat (first | refine blk_drewN ?_ _ | refine blk_drew ?_ | refine blk_alloc ?_ _)); refine blk_put (cs := #[.int .i64 4, .string (arrAt ([(⟨#[40]⟩ : ByteArray), (⟨#[41]⟩ : ByteArray), (⟨#[91]⟩ : ByteArray), (⟨#[93]⟩ : ByteArray), (⟨#[123]⟩ : ByteArray), (⟨#[125]⟩ : ByteArray), (⟨#[44]⟩ : ByteArray), (⟨#[46]⟩ : ByteArray), (⟨#[46, 46]⟩ : ByteArray), (⟨#[43]⟩ : ByteArray), (⟨#[45]⟩ : ByteArray), (⟨#[42]⟩ : ByteArray), (⟨#[61]⟩ : ByteArray), (⟨#[33, 61]⟩ : ByteArray), (⟨#[60]⟩ : ByteArray), (⟨#[60, 61]⟩ : ByteArray), (⟨#[62]⟩ : ByteArray), (⟨#[62, 61]⟩ : ByteArray), (⟨#[33]⟩ : ByteArray)] : List ByteArray) (ji196)), .int .i64 0]) ?_ 2 _ rfl; (with_reducible repeat (first | refine blk_drewN ?_ _ | refine blk_drew ?_ | refine blk_alloc ?_ _)); refine blk_put (cs := #[.int .i64 4, .string (⟨#[]⟩ : ByteArray), .int .i64 0]) ?_ 1 _ rfl; (with_reducible repeat (first | refine blk_drewN ?_ _ | refine blk_drew ?_ | refine blk_alloc ?_ _)); refine blk_put (cs := #[.int .i64 0, .string (⟨#[]⟩ : ByteArray), .int .i64 0]) ?_ 0 _ rfl; (with_reducible repeat (first | refine blk_drewN ?_ _ | refine blk_drew ?_ | refine blk_alloc ?_ _)); exact BK337.out) Tryd.underlying44 rfl (by kernel_rfl)) rfl ?_
                      exact ⟨by first | rfl | (simp [errW_none, errW_some] <;> rfl) | (simp only [← hji196]; first | rfl | (simp [errW_none, errW_some] <;> rfl)) | (simp [*, errW_none, errW_some] <;> rfl), hbT HB.out⟩
                    · as_aux_lemma =>
                      rw [if_neg c198] at H
                      exact absurd H (by simp)
                  · as_aux_lemma =>
                    rw [if_neg c197] at H
                    exact absurd H (by simp)

end Go.Proofs.YthmcapdakplhdaaDoor.Pr

-- printed by a patched copy of the kit's print, for this seat
import Derived.Test.YthhpeeckiggpaaaDoorPrx0
import Derived.Test.YthhpeeckiggpaaaDoorPrx1
import Derived.Test.YthhpeeckiggpaaaDoorPrx8
import Derived.Test.YthhpeeckiggpaaaDoorPrx17
namespace Go.Proofs.YthhpeeckiggpaaaDoor.Pr
open Go.RowKit Go.Proofs.YthhpeeckiggpaaaDoorW.PrintWords Go.Proofs.YthhpeeckiggpaaaDoorW.PrintLast Go.Proofs.YthhpeeckiggpaaaDoorW.PrintMore
attribute [local go_sem] max2_int min2_int max_two min_two max_three min_three max_four min_four   -- for this text's walks alone
attribute [local go_sem high] Go.Proofs.YthhpeeckiggpaaaDoor.isSome_setCell
set_option maxRecDepth 100000
set_option linter.unusedVariables false
set_option linter.unusedSimpArgs false

attribute [local go_sem high] eqA26
/-! ### refrainlaw1_ValueRing: function 8 -/
mutual
def refrainlaw1_ValueRing.j0 : Nat → Int → Int → Int → Int → Bool → Option (Bool)
  | 0, _, _, _, _, _ => none
  | k + 1, x0, x1, x2, x12, x107 => if x107 = true then (some false) else ((refrainlaw1_of.f k 5 x0 x1).bind fun bt524 => ((refrainlaw1_of.f k 5 x1 x0).bind fun bt526 => ((refrainlaw1_of.f k 5 x0 x2).bind fun bt528 => ((refrainlaw1_of.f k 5 x1 x2).bind fun bt530 => ((refrainlaw1_of.f k 5 bt524.1 x2).bind fun bt532 => ((refrainlaw1_of.f k 5 x0 bt530.1).bind fun bt534 => (if bt524.2 = true then (if bt526.2 = true then (if bt528.2 = true then (if bt530.2 = true then (if bt532.2 = true then (if bt534.2 = true then (if bt524.1 = bt526.1 then (refrainlaw1_ValueRing.j1 k x0 x12 bt524.1 bt528.1 (bt532.1 != bt534.1)) else (refrainlaw1_ValueRing.j1 k x0 x12 bt524.1 bt528.1 true)) else (refrainlaw1_ValueRing.j1 k x0 x12 bt524.1 bt528.1 true)) else (refrainlaw1_ValueRing.j1 k x0 x12 bt524.1 bt528.1 true)) else (refrainlaw1_ValueRing.j1 k x0 x12 bt524.1 bt528.1 true)) else (refrainlaw1_ValueRing.j1 k x0 x12 bt524.1 bt528.1 true)) else (refrainlaw1_ValueRing.j1 k x0 x12 bt524.1 bt528.1 true)) else (refrainlaw1_ValueRing.j1 k x0 x12 bt524.1 bt528.1 true))))))))
def refrainlaw1_ValueRing.j1 : Nat → Int → Int → Int → Int → Bool → Option (Bool)
  | 0, _, _, _, _, _ => none
  | k + 1, x0, x12, x20, x22, x175 => if x175 = true then (some false) else ((refrainlaw1_of.f k 5 x0 x12).bind fun bt536 => ((refrainlaw1_of.f k 3 x20 x22).bind fun bt538 => ((refrainlaw1_of.f k 5 x0 1).bind fun bt540 => ((refrainlaw1_of.f k 4 0 x0).bind fun bt542 => ((value_Unary.f k 1 1 x0 (⟨#[]⟩ : ByteArray) false).bind fun bt544 => (if bt536.2 = true then (if bt538.2 = true then (if bt540.2 = true then (if bt542.2 = true then (if bt536.1 = bt538.1 then (if bt540.1 = x0 then (if bt544.2.2.2.2 = 0 then (some (bt544.1 == 1 && (bt544.2.1 == bt542.1 && (bt544.2.2.1.toList == ([] : List UInt8) && (!bt544.2.2.2.1))))) else (some false)) else (some false)) else (some false)) else (some false)) else (some false)) else (some false)) else (some false)))))))
end
def refrainlaw1_ValueRing.f (k : Nat) (a0 : Int) (a1 : Int) (a2 : Int) : Option (Bool) := (refrainlaw1_begun.f k).bind fun t511 => (if t511 = true then ((refrainlaw1_of.f k 3 a0 a1).bind fun bt512 => ((refrainlaw1_of.f k 3 a1 a0).bind fun bt514 => ((refrainlaw1_of.f k 3 a1 a2).bind fun bt516 => ((refrainlaw1_of.f k 3 bt512.1 a2).bind fun bt518 => ((refrainlaw1_of.f k 3 a0 bt516.1).bind fun bt520 => ((refrainlaw1_of.f k 4 bt512.1 a1).bind fun bt522 => (if bt512.2 = true then (if bt514.2 = true then (if bt516.2 = true then (if bt518.2 = true then (if bt520.2 = true then (if bt522.2 = true then (if bt512.1 = bt514.1 then (if bt518.1 = bt520.1 then (refrainlaw1_ValueRing.j0 k a0 a1 a2 bt516.1 (bt522.1 != a0)) else (refrainlaw1_ValueRing.j0 k a0 a1 a2 bt516.1 true)) else (refrainlaw1_ValueRing.j0 k a0 a1 a2 bt516.1 true)) else (refrainlaw1_ValueRing.j0 k a0 a1 a2 bt516.1 true)) else (refrainlaw1_ValueRing.j0 k a0 a1 a2 bt516.1 true)) else (refrainlaw1_ValueRing.j0 k a0 a1 a2 bt516.1 true)) else (refrainlaw1_ValueRing.j0 k a0 a1 a2 bt516.1 true)) else (refrainlaw1_ValueRing.j0 k a0 a1 a2 bt516.1 true)) else (refrainlaw1_ValueRing.j0 k a0 a1 a2 bt516.1 true)))))))) else (some false))
set_option maxRecDepth 100000 in
theorem refrainlaw1_ValueRing.j0_zero : ∀ y0 y1 y2 y3 y4, refrainlaw1_ValueRing.j0 0 y0 y1 y2 y3 y4 = none := fun _ _ _ _ _ => rfl
set_option maxRecDepth 100000 in
theorem refrainlaw1_ValueRing.j1_zero : ∀ y0 y1 y2 y3 y4, refrainlaw1_ValueRing.j1 0 y0 y1 y2 y3 y4 = none := fun _ _ _ _ _ => rfl
set_option maxRecDepth 100000 in
theorem refrainlaw1_ValueRing.mono_l : ∀ k, (∀ y0 y1 y2 y3 y4, LeO (refrainlaw1_ValueRing.j0 k y0 y1 y2 y3 y4) (refrainlaw1_ValueRing.j0 (k + 1) y0 y1 y2 y3 y4)) ∧ (∀ y0 y1 y2 y3 y4, LeO (refrainlaw1_ValueRing.j1 k y0 y1 y2 y3 y4) (refrainlaw1_ValueRing.j1 (k + 1) y0 y1 y2 y3 y4))
  | 0 => ⟨fun _ _ _ _ _ r h => by (unfold refrainlaw1_ValueRing.j0 at h; cases h), fun _ _ _ _ _ r h => by (unfold refrainlaw1_ValueRing.j1 at h; cases h)⟩
  | k + 1 => by
    obtain ⟨ih0, ih1⟩ := refrainlaw1_ValueRing.mono_l k
    refine ⟨?_, ?_⟩
    · intro y0 y1 y2 y3 y4
      unfold refrainlaw1_ValueRing.j0
      repeat' first
      | (with_reducible exact ih0 _ _ _ _ _)
      | (with_reducible exact ih1 _ _ _ _ _)
      | (with_reducible exact refrainlaw1_begun.mono _)
      | (with_reducible exact refrainlaw1_of.mono _ _ _ _)
      | (with_reducible exact value_Unary.mono _ _ _ _ _ _)
      | (with_reducible exact LeO.refl _)
      | (with_reducible exact LeO.none _)
      | (with_reducible refine LeO.ite ?_ ?_)
      | (with_reducible refine LeO.bind ?_ (fun _ => ?_))
      | exact ih0 _ _ _ _ _
      | exact ih1 _ _ _ _ _
      | exact refrainlaw1_begun.mono _
      | exact refrainlaw1_of.mono _ _ _ _
      | exact value_Unary.mono _ _ _ _ _ _
      | exact LeO.none _
      | refine LeO.ite ?_ ?_
      | refine LeO.bind ?_ (fun _ => ?_)
    · intro y0 y1 y2 y3 y4
      unfold refrainlaw1_ValueRing.j1
      repeat' first
      | (with_reducible exact ih0 _ _ _ _ _)
      | (with_reducible exact ih1 _ _ _ _ _)
      | (with_reducible exact refrainlaw1_begun.mono _)
      | (with_reducible exact refrainlaw1_of.mono _ _ _ _)
      | (with_reducible exact value_Unary.mono _ _ _ _ _ _)
      | (with_reducible exact LeO.refl _)
      | (with_reducible exact LeO.none _)
      | (with_reducible refine LeO.ite ?_ ?_)
      | (with_reducible refine LeO.bind ?_ (fun _ => ?_))
      | exact ih0 _ _ _ _ _
      | exact ih1 _ _ _ _ _
      | exact refrainlaw1_begun.mono _
      | exact refrainlaw1_of.mono _ _ _ _
      | exact value_Unary.mono _ _ _ _ _ _
      | exact LeO.none _
      | refine LeO.ite ?_ ?_
      | refine LeO.bind ?_ (fun _ => ?_)
set_option maxRecDepth 100000 in
theorem refrainlaw1_ValueRing.mono : ∀ a0 a1 a2 k, LeO (refrainlaw1_ValueRing.f k a0 a1 a2) (refrainlaw1_ValueRing.f (k + 1) a0 a1 a2) := by
  intro a0 a1 a2 k
  obtain ⟨ih0, ih1⟩ := refrainlaw1_ValueRing.mono_l k
  unfold refrainlaw1_ValueRing.f
  repeat' first
      | (with_reducible exact ih0 _ _ _ _ _)
      | (with_reducible exact ih1 _ _ _ _ _)
      | (with_reducible exact refrainlaw1_begun.mono _)
      | (with_reducible exact refrainlaw1_of.mono _ _ _ _)
      | (with_reducible exact value_Unary.mono _ _ _ _ _ _)
      | (with_reducible exact LeO.refl _)
      | (with_reducible exact LeO.none _)
      | (with_reducible refine LeO.ite ?_ ?_)
      | (with_reducible refine LeO.bind ?_ (fun _ => ?_))
      | exact ih0 _ _ _ _ _
      | exact ih1 _ _ _ _ _
      | exact refrainlaw1_begun.mono _
      | exact refrainlaw1_of.mono _ _ _ _
      | exact value_Unary.mono _ _ _ _ _ _
      | exact LeO.none _
      | refine LeO.ite ?_ ?_
      | refine LeO.bind ?_ (fun _ => ?_)
set_option maxHeartbeats 8000000 in
set_option maxRecDepth 100000 in
theorem refrainlaw1_ValueRing.calls (k : Nat) (a0 : Int) (a1 : Int) (a2 : Int) (r : Bool) (w : World) (HL_LErr : Aside0 (LErr w)) (HL_LG0 : Aside0 (LG0 w)) (HL_LG1 : Aside0 (LG1 w)) (HL_LSyn : Aside0 (LSyn w)) (h : refrainlaw1_ValueRing.f k a0 a1 a2 = some r) (hr : r = true) :
    Calls Tryd.prog 8 #[.int .i64 a0, .int .i64 a1, .int .i64 a2] w fun e w' => e = .returned (.bool r) ∧ Below w.heap.size w w' := by
  replace hr := Aside0.mk hr
  have hu26 := Tryd.underlying26
  have HB := Aside0.mk (Below.refl w.heap.size w)
  have H : ((refrainlaw1_begun.f k).bind fun t511 => (if t511 = true then ((refrainlaw1_of.f k 3 a0 a1).bind fun bt512 => ((refrainlaw1_of.f k 3 a1 a0).bind fun bt514 => ((refrainlaw1_of.f k 3 a1 a2).bind fun bt516 => ((refrainlaw1_of.f k 3 bt512.1 a2).bind fun bt518 => ((refrainlaw1_of.f k 3 a0 bt516.1).bind fun bt520 => ((refrainlaw1_of.f k 4 bt512.1 a1).bind fun bt522 => (if bt512.2 = true then (if bt514.2 = true then (if bt516.2 = true then (if bt518.2 = true then (if bt520.2 = true then (if bt522.2 = true then (if bt512.1 = bt514.1 then (if bt518.1 = bt520.1 then (refrainlaw1_ValueRing.j0 k a0 a1 a2 bt516.1 (bt522.1 != a0)) else (refrainlaw1_ValueRing.j0 k a0 a1 a2 bt516.1 true)) else (refrainlaw1_ValueRing.j0 k a0 a1 a2 bt516.1 true)) else (refrainlaw1_ValueRing.j0 k a0 a1 a2 bt516.1 true)) else (refrainlaw1_ValueRing.j0 k a0 a1 a2 bt516.1 true)) else (refrainlaw1_ValueRing.j0 k a0 a1 a2 bt516.1 true)) else (refrainlaw1_ValueRing.j0 k a0 a1 a2 bt516.1 true)) else (refrainlaw1_ValueRing.j0 k a0 a1 a2 bt516.1 true)) else (refrainlaw1_ValueRing.j0 k a0 a1 a2 bt516.1 true)))))))) else (some false))) = some r := h
  clear h
  replace H := Option.bind_eq_some_iff.mp H
  obtain ⟨t511, A40, H⟩ := H
  replace H : (if t511 = true then ((refrainlaw1_of.f k 3 a0 a1).bind fun bt512 => ((refrainlaw1_of.f k 3 a1 a0).bind fun bt514 => ((refrainlaw1_of.f k 3 a1 a2).bind fun bt516 => ((refrainlaw1_of.f k 3 bt512.1 a2).bind fun bt518 => ((refrainlaw1_of.f k 3 a0 bt516.1).bind fun bt520 => ((refrainlaw1_of.f k 4 bt512.1 a1).bind fun bt522 => (if bt512.2 = true then (if bt514.2 = true then (if bt516.2 = true then (if bt518.2 = true then (if bt520.2 = true then (if bt522.2 = true then (if bt512.1 = bt514.1 then (if bt518.1 = bt520.1 then (refrainlaw1_ValueRing.j0 k a0 a1 a2 bt516.1 (bt522.1 != a0)) else (refrainlaw1_ValueRing.j0 k a0 a1 a2 bt516.1 true)) else (refrainlaw1_ValueRing.j0 k a0 a1 a2 bt516.1 true)) else (refrainlaw1_ValueRing.j0 k a0 a1 a2 bt516.1 true)) else (refrainlaw1_ValueRing.j0 k a0 a1 a2 bt516.1 true)) else (refrainlaw1_ValueRing.j0 k a0 a1 a2 bt516.1 true)) else (refrainlaw1_ValueRing.j0 k a0 a1 a2 bt516.1 true)) else (refrainlaw1_ValueRing.j0 k a0 a1 a2 bt516.1 true)) else (refrainlaw1_ValueRing.j0 k a0 a1 a2 bt516.1 true)))))))) else (some false)) = some r := H
  have A4 := Aside0.mk A40
  clear A40
  by_cases c5 : t511 = true
  · as_aux_lemma =>
    subst c5
    have H1 : ((refrainlaw1_of.f k 3 a0 a1).bind fun bt512 => ((refrainlaw1_of.f k 3 a1 a0).bind fun bt514 => ((refrainlaw1_of.f k 3 a1 a2).bind fun bt516 => ((refrainlaw1_of.f k 3 bt512.1 a2).bind fun bt518 => ((refrainlaw1_of.f k 3 a0 bt516.1).bind fun bt520 => ((refrainlaw1_of.f k 4 bt512.1 a1).bind fun bt522 => (if bt512.2 = true then (if bt514.2 = true then (if bt516.2 = true then (if bt518.2 = true then (if bt520.2 = true then (if bt522.2 = true then (if bt512.1 = bt514.1 then (if bt518.1 = bt520.1 then (refrainlaw1_ValueRing.j0 k a0 a1 a2 bt516.1 (bt522.1 != a0)) else (refrainlaw1_ValueRing.j0 k a0 a1 a2 bt516.1 true)) else (refrainlaw1_ValueRing.j0 k a0 a1 a2 bt516.1 true)) else (refrainlaw1_ValueRing.j0 k a0 a1 a2 bt516.1 true)) else (refrainlaw1_ValueRing.j0 k a0 a1 a2 bt516.1 true)) else (refrainlaw1_ValueRing.j0 k a0 a1 a2 bt516.1 true)) else (refrainlaw1_ValueRing.j0 k a0 a1 a2 bt516.1 true)) else (refrainlaw1_ValueRing.j0 k a0 a1 a2 bt516.1 true)) else (refrainlaw1_ValueRing.j0 k a0 a1 a2 bt516.1 true)))))))) = some r := by rw [if_pos rfl] at H; exact H
    clear H
    have H := H1
    clear H1
    replace H := Option.bind_eq_some_iff.mp H
    obtain ⟨⟨t512, t513⟩, A60, H⟩ := H
    replace H : ((refrainlaw1_of.f k 3 a1 a0).bind fun bt514 => ((refrainlaw1_of.f k 3 a1 a2).bind fun bt516 => ((refrainlaw1_of.f k 3 t512 a2).bind fun bt518 => ((refrainlaw1_of.f k 3 a0 bt516.1).bind fun bt520 => ((refrainlaw1_of.f k 4 t512 a1).bind fun bt522 => (if t513 = true then (if bt514.2 = true then (if bt516.2 = true then (if bt518.2 = true then (if bt520.2 = true then (if bt522.2 = true then (if t512 = bt514.1 then (if bt518.1 = bt520.1 then (refrainlaw1_ValueRing.j0 k a0 a1 a2 bt516.1 (bt522.1 != a0)) else (refrainlaw1_ValueRing.j0 k a0 a1 a2 bt516.1 true)) else (refrainlaw1_ValueRing.j0 k a0 a1 a2 bt516.1 true)) else (refrainlaw1_ValueRing.j0 k a0 a1 a2 bt516.1 true)) else (refrainlaw1_ValueRing.j0 k a0 a1 a2 bt516.1 true)) else (refrainlaw1_ValueRing.j0 k a0 a1 a2 bt516.1 true)) else (refrainlaw1_ValueRing.j0 k a0 a1 a2 bt516.1 true)) else (refrainlaw1_ValueRing.j0 k a0 a1 a2 bt516.1 true)) else (refrainlaw1_ValueRing.j0 k a0 a1 a2 bt516.1 true))))))) = some r := H
    have A6 := Aside0.mk A60
    clear A60
    replace H := Option.bind_eq_some_iff.mp H
    obtain ⟨⟨t514, t515⟩, A70, H⟩ := H
    replace H : ((refrainlaw1_of.f k 3 a1 a2).bind fun bt516 => ((refrainlaw1_of.f k 3 t512 a2).bind fun bt518 => ((refrainlaw1_of.f k 3 a0 bt516.1).bind fun bt520 => ((refrainlaw1_of.f k 4 t512 a1).bind fun bt522 => (if t513 = true then (if t515 = true then (if bt516.2 = true then (if bt518.2 = true then (if bt520.2 = true then (if bt522.2 = true then (if t512 = t514 then (if bt518.1 = bt520.1 then (refrainlaw1_ValueRing.j0 k a0 a1 a2 bt516.1 (bt522.1 != a0)) else (refrainlaw1_ValueRing.j0 k a0 a1 a2 bt516.1 true)) else (refrainlaw1_ValueRing.j0 k a0 a1 a2 bt516.1 true)) else (refrainlaw1_ValueRing.j0 k a0 a1 a2 bt516.1 true)) else (refrainlaw1_ValueRing.j0 k a0 a1 a2 bt516.1 true)) else (refrainlaw1_ValueRing.j0 k a0 a1 a2 bt516.1 true)) else (refrainlaw1_ValueRing.j0 k a0 a1 a2 bt516.1 true)) else (refrainlaw1_ValueRing.j0 k a0 a1 a2 bt516.1 true)) else (refrainlaw1_ValueRing.j0 k a0 a1 a2 bt516.1 true)))))) = some r := H
    have A7 := Aside0.mk A70
    clear A70
    replace H := Option.bind_eq_some_iff.mp H
    obtain ⟨⟨t516, t517⟩, A80, H⟩ := H
    replace H : ((refrainlaw1_of.f k 3 t512 a2).bind fun bt518 => ((refrainlaw1_of.f k 3 a0 t516).bind fun bt520 => ((refrainlaw1_of.f k 4 t512 a1).bind fun bt522 => (if t513 = true then (if t515 = true then (if t517 = true then (if bt518.2 = true then (if bt520.2 = true then (if bt522.2 = true then (if t512 = t514 then (if bt518.1 = bt520.1 then (refrainlaw1_ValueRing.j0 k a0 a1 a2 t516 (bt522.1 != a0)) else (refrainlaw1_ValueRing.j0 k a0 a1 a2 t516 true)) else (refrainlaw1_ValueRing.j0 k a0 a1 a2 t516 true)) else (refrainlaw1_ValueRing.j0 k a0 a1 a2 t516 true)) else (refrainlaw1_ValueRing.j0 k a0 a1 a2 t516 true)) else (refrainlaw1_ValueRing.j0 k a0 a1 a2 t516 true)) else (refrainlaw1_ValueRing.j0 k a0 a1 a2 t516 true)) else (refrainlaw1_ValueRing.j0 k a0 a1 a2 t516 true)) else (refrainlaw1_ValueRing.j0 k a0 a1 a2 t516 true))))) = some r := H
    have A8 := Aside0.mk A80
    clear A80
    replace H := Option.bind_eq_some_iff.mp H
    obtain ⟨⟨t518, t519⟩, A90, H⟩ := H
    replace H : ((refrainlaw1_of.f k 3 a0 t516).bind fun bt520 => ((refrainlaw1_of.f k 4 t512 a1).bind fun bt522 => (if t513 = true then (if t515 = true then (if t517 = true then (if t519 = true then (if bt520.2 = true then (if bt522.2 = true then (if t512 = t514 then (if t518 = bt520.1 then (refrainlaw1_ValueRing.j0 k a0 a1 a2 t516 (bt522.1 != a0)) else (refrainlaw1_ValueRing.j0 k a0 a1 a2 t516 true)) else (refrainlaw1_ValueRing.j0 k a0 a1 a2 t516 true)) else (refrainlaw1_ValueRing.j0 k a0 a1 a2 t516 true)) else (refrainlaw1_ValueRing.j0 k a0 a1 a2 t516 true)) else (refrainlaw1_ValueRing.j0 k a0 a1 a2 t516 true)) else (refrainlaw1_ValueRing.j0 k a0 a1 a2 t516 true)) else (refrainlaw1_ValueRing.j0 k a0 a1 a2 t516 true)) else (refrainlaw1_ValueRing.j0 k a0 a1 a2 t516 true)))) = some r := H
    have A9 := Aside0.mk A90
    clear A90
    replace H := Option.bind_eq_some_iff.mp H
    obtain ⟨⟨t520, t521⟩, A100, H⟩ := H
    replace H : ((refrainlaw1_of.f k 4 t512 a1).bind fun bt522 => (if t513 = true then (if t515 = true then (if t517 = true then (if t519 = true then (if t521 = true then (if bt522.2 = true then (if t512 = t514 then (if t518 = t520 then (refrainlaw1_ValueRing.j0 k a0 a1 a2 t516 (bt522.1 != a0)) else (refrainlaw1_ValueRing.j0 k a0 a1 a2 t516 true)) else (refrainlaw1_ValueRing.j0 k a0 a1 a2 t516 true)) else (refrainlaw1_ValueRing.j0 k a0 a1 a2 t516 true)) else (refrainlaw1_ValueRing.j0 k a0 a1 a2 t516 true)) else (refrainlaw1_ValueRing.j0 k a0 a1 a2 t516 true)) else (refrainlaw1_ValueRing.j0 k a0 a1 a2 t516 true)) else (refrainlaw1_ValueRing.j0 k a0 a1 a2 t516 true)) else (refrainlaw1_ValueRing.j0 k a0 a1 a2 t516 true))) = some r := H
    have A10 := Aside0.mk A100
    clear A100
    replace H := Option.bind_eq_some_iff.mp H
    obtain ⟨⟨t522, t523⟩, A110, H⟩ := H
    replace H : (if t513 = true then (if t515 = true then (if t517 = true then (if t519 = true then (if t521 = true then (if t523 = true then (if t512 = t514 then (if t518 = t520 then (refrainlaw1_ValueRing.j0 k a0 a1 a2 t516 (t522 != a0)) else (refrainlaw1_ValueRing.j0 k a0 a1 a2 t516 true)) else (refrainlaw1_ValueRing.j0 k a0 a1 a2 t516 true)) else (refrainlaw1_ValueRing.j0 k a0 a1 a2 t516 true)) else (refrainlaw1_ValueRing.j0 k a0 a1 a2 t516 true)) else (refrainlaw1_ValueRing.j0 k a0 a1 a2 t516 true)) else (refrainlaw1_ValueRing.j0 k a0 a1 a2 t516 true)) else (refrainlaw1_ValueRing.j0 k a0 a1 a2 t516 true)) else (refrainlaw1_ValueRing.j0 k a0 a1 a2 t516 true)) = some r := H
    have A11 := Aside0.mk A110
    clear A110
    have HC12 := Aside0.mk H
    clear H
    go_enter Tryd.func8, Tryd.ntmps8
    go_upto_region 10 with (first | ((with_reducible refine gate_callee (f := 10) rfl ?_); refine goesL_ (some 32) rfl rfl Tryd.func10 (by kernel_rfl) rfl #[] rfl (by (try simp only [List.map_toArray, List.map_cons, List.map_nil]); first | done | rfl | (simp only [List.length_drop, List.length_take]; rfl)) ?_; (with_reducible refine (refrainlaw1_begun.calls k  true _ ?side1 ?side2 ?side3 ?side4 A4.out (by first | rfl | exact hr.out)).mono ?_); (case side1 => first | (with_reducible exact HL_LErr) | exact ⟨LErr.below HL_LErr.out (by repeat (first | (with_reducible first | exact HB.out | apply below_alloc | apply pw_below_drewN | apply below_drew1) | exact HB.out))⟩); (case side2 => first | (with_reducible exact HL_LG0) | exact ⟨LG0.below HL_LG0.out (by repeat (first | (with_reducible first | exact HB.out | apply below_alloc | apply pw_below_drewN | apply below_drew1) | exact HB.out))⟩); (case side3 => first | (with_reducible exact HL_LG1) | exact ⟨LG1.below HL_LG1.out (by repeat (first | (with_reducible first | exact HB.out | apply below_alloc | apply pw_below_drewN | apply below_drew1) | exact HB.out))⟩); (case side4 => first | (with_reducible exact HL_LSyn) | exact ⟨LSyn.below HL_LSyn.out (by repeat (first | (with_reducible first | exact HB.out | apply below_alloc | apply pw_below_drewN | apply below_drew1) | exact HB.out))⟩); rintro e w13 ⟨rfl, hb⟩; refine ⟨_, rfl, ?_⟩; have n0_ := Aside0.mk (below_step (by repeat (first | (with_reducible first | exact HB.out | apply below_alloc | apply pw_below_drewN | apply below_drew1) | exact HB.out)) hb); clear HB; have HB := n0_; clear n0_; (try clear hb); (try clear hb2); (try clear hk); (try clear hi)) | ((with_reducible refine gate_callee (f := 24) rfl ?_); refine goesL_ (some 38) rfl rfl Tryd.func24 (by kernel_rfl) rfl #[.int .i64 3, .int .i64 a0, .int .i64 a1] rfl (by (try simp only [List.map_toArray, List.map_cons, List.map_nil]); first | done | rfl | (simp only [List.length_drop, List.length_take]; rfl)) ?_; (with_reducible refine (refrainlaw1_of.calls k 3 a0 a1 t512 t513 _ ?side1 A6.out).mono ?_); (case side1 => first | (with_reducible exact HL_LG0) | exact ⟨LG0.below HL_LG0.out (by repeat (first | (with_reducible first | exact HB.out | apply below_alloc | apply pw_below_drewN | apply below_drew1) | exact HB.out))⟩); rintro e w14 ⟨rfl, hb⟩; refine ⟨_, rfl, ?_⟩; have n0_ := Aside0.mk (below_step (by repeat (first | (with_reducible first | exact HB.out | apply below_alloc | apply pw_below_drewN | apply below_drew1) | exact HB.out)) hb); clear HB; have HB := n0_; clear n0_; (try clear hb); (try clear hb2); (try clear hk); (try clear hi)) | ((with_reducible refine gate_callee (f := 24) rfl ?_); refine goesL_ (some 44) rfl rfl Tryd.func24 (by kernel_rfl) rfl #[.int .i64 3, .int .i64 a1, .int .i64 a0] rfl (by (try simp only [List.map_toArray, List.map_cons, List.map_nil]); first | done | rfl | (simp only [List.length_drop, List.length_take]; rfl)) ?_; (with_reducible refine (refrainlaw1_of.calls k 3 a1 a0 t514 t515 _ ?side1 A7.out).mono ?_); (case side1 => first | (with_reducible exact HL_LG0) | exact ⟨LG0.below HL_LG0.out (by repeat (first | (with_reducible first | exact HB.out | apply below_alloc | apply pw_below_drewN | apply below_drew1) | exact HB.out))⟩); rintro e w15 ⟨rfl, hb⟩; refine ⟨_, rfl, ?_⟩; have n0_ := Aside0.mk (below_step (by repeat (first | (with_reducible first | exact HB.out | apply below_alloc | apply pw_below_drewN | apply below_drew1) | exact HB.out)) hb); clear HB; have HB := n0_; clear n0_; (try clear hb); (try clear hb2); (try clear hk); (try clear hi)) | ((with_reducible refine gate_callee (f := 24) rfl ?_); refine goesL_ (some 50) rfl rfl Tryd.func24 (by kernel_rfl) rfl #[.int .i64 3, .int .i64 a1, .int .i64 a2] rfl (by (try simp only [List.map_toArray, List.map_cons, List.map_nil]); first | done | rfl | (simp only [List.length_drop, List.length_take]; rfl)) ?_; (with_reducible refine (refrainlaw1_of.calls k 3 a1 a2 t516 t517 _ ?side1 A8.out).mono ?_); (case side1 => first | (with_reducible exact HL_LG0) | exact ⟨LG0.below HL_LG0.out (by repeat (first | (with_reducible first | exact HB.out | apply below_alloc | apply pw_below_drewN | apply below_drew1) | exact HB.out))⟩); rintro e w16 ⟨rfl, hb⟩; refine ⟨_, rfl, ?_⟩; have n0_ := Aside0.mk (below_step (by repeat (first | (with_reducible first | exact HB.out | apply below_alloc | apply pw_below_drewN | apply below_drew1) | exact HB.out)) hb); clear HB; have HB := n0_; clear n0_; (try clear hb); (try clear hb2); (try clear hk); (try clear hi)) | ((with_reducible refine gate_callee (f := 24) rfl ?_); refine goesL_ (some 56) rfl rfl Tryd.func24 (by kernel_rfl) rfl #[.int .i64 3, .int .i64 t512, .int .i64 a2] rfl (by (try simp only [List.map_toArray, List.map_cons, List.map_nil]); first | done | rfl | (simp only [List.length_drop, List.length_take]; rfl)) ?_; (with_reducible refine (refrainlaw1_of.calls k 3 t512 a2 t518 t519 _ ?side1 A9.out).mono ?_); (case side1 => first | (with_reducible exact HL_LG0) | exact ⟨LG0.below HL_LG0.out (by repeat (first | (with_reducible first | exact HB.out | apply below_alloc | apply pw_below_drewN | apply below_drew1) | exact HB.out))⟩); rintro e w17 ⟨rfl, hb⟩; refine ⟨_, rfl, ?_⟩; have n0_ := Aside0.mk (below_step (by repeat (first | (with_reducible first | exact HB.out | apply below_alloc | apply pw_below_drewN | apply below_drew1) | exact HB.out)) hb); clear HB; have HB := n0_; clear n0_; (try clear hb); (try clear hb2); (try clear hk); (try clear hi)) | ((with_reducible refine gate_callee (f := 24) rfl ?_); refine goesL_ (some 62) rfl rfl Tryd.func24 (by kernel_rfl) rfl #[.int .i64 3, .int .i64 a0, .int .i64 t516] rfl (by (try simp only [List.map_toArray, List.map_cons, List.map_nil]); first | done | rfl | (simp only [List.length_drop, List.length_take]; rfl)) ?_; (with_reducible refine (refrainlaw1_of.calls k 3 a0 t516 t520 t521 _ ?side1 A10.out).mono ?_); (case side1 => first | (with_reducible exact HL_LG0) | exact ⟨LG0.below HL_LG0.out (by repeat (first | (with_reducible first | exact HB.out | apply below_alloc | apply pw_below_drewN | apply below_drew1) | exact HB.out))⟩); rintro e w18 ⟨rfl, hb⟩; refine ⟨_, rfl, ?_⟩; have n0_ := Aside0.mk (below_step (by repeat (first | (with_reducible first | exact HB.out | apply below_alloc | apply pw_below_drewN | apply below_drew1) | exact HB.out)) hb); clear HB; have HB := n0_; clear n0_; (try clear hb); (try clear hb2); (try clear hk); (try clear hi)) | ((with_reducible refine gate_callee (f := 24) rfl ?_); refine goesL_ (some 68) rfl rfl Tryd.func24 (by kernel_rfl) rfl #[.int .i64 4, .int .i64 t512, .int .i64 a1] rfl (by (try simp only [List.map_toArray, List.map_cons, List.map_nil]); first | done | rfl | (simp only [List.length_drop, List.length_take]; rfl)) ?_; (with_reducible refine (refrainlaw1_of.calls k 4 t512 a1 t522 t523 _ ?side1 A11.out).mono ?_); (case side1 => first | (with_reducible exact HL_LG0) | exact ⟨LG0.below HL_LG0.out (by repeat (first | (with_reducible first | exact HB.out | apply below_alloc | apply pw_below_drewN | apply below_drew1) | exact HB.out))⟩); rintro e w19 ⟨rfl, hb⟩; refine ⟨_, rfl, ?_⟩; have n0_ := Aside0.mk (below_step (by repeat (first | (with_reducible first | exact HB.out | apply below_alloc | apply pw_below_drewN | apply below_drew1) | exact HB.out)) hb); clear HB; have HB := n0_; clear n0_; (try clear hb); (try clear hb2); (try clear hk); (try clear hi)))
    (try simp only [Act.put, List.setIfInBounds_toArray, List.set_cons_zero, List.set_cons_succ])
    go_cut [107] (fun v107 wc => ∃ (kq : Nat) (x107_11 : Bool), v107 = .bool x107_11 ∧ Aside0 (refrainlaw1_ValueRing.j0 kq a0 a1 a2 t516 x107_11 = some r) ∧ Aside0 (kq ≤ k) ∧ Aside0 (Below w.heap.size w wc))
    case first =>
      have H := HC12.out
      clear HC12
      by_cases c20 : t513 = true
      · as_aux_lemma =>
        subst c20
        have H1 : (if t515 = true then (if t517 = true then (if t519 = true then (if t521 = true then (if t523 = true then (if t512 = t514 then (if t518 = t520 then (refrainlaw1_ValueRing.j0 k a0 a1 a2 t516 (t522 != a0)) else (refrainlaw1_ValueRing.j0 k a0 a1 a2 t516 true)) else (refrainlaw1_ValueRing.j0 k a0 a1 a2 t516 true)) else (refrainlaw1_ValueRing.j0 k a0 a1 a2 t516 true)) else (refrainlaw1_ValueRing.j0 k a0 a1 a2 t516 true)) else (refrainlaw1_ValueRing.j0 k a0 a1 a2 t516 true)) else (refrainlaw1_ValueRing.j0 k a0 a1 a2 t516 true)) else (refrainlaw1_ValueRing.j0 k a0 a1 a2 t516 true)) = some r := by rw [if_pos rfl] at H; exact H
        clear H
        have H := H1
        clear H1
        by_cases c21 : t515 = true
        · as_aux_lemma =>
          subst c21
          have H1 : (if t517 = true then (if t519 = true then (if t521 = true then (if t523 = true then (if t512 = t514 then (if t518 = t520 then (refrainlaw1_ValueRing.j0 k a0 a1 a2 t516 (t522 != a0)) else (refrainlaw1_ValueRing.j0 k a0 a1 a2 t516 true)) else (refrainlaw1_ValueRing.j0 k a0 a1 a2 t516 true)) else (refrainlaw1_ValueRing.j0 k a0 a1 a2 t516 true)) else (refrainlaw1_ValueRing.j0 k a0 a1 a2 t516 true)) else (refrainlaw1_ValueRing.j0 k a0 a1 a2 t516 true)) else (refrainlaw1_ValueRing.j0 k a0 a1 a2 t516 true)) = some r := by rw [if_pos rfl] at H; exact H
          clear H
          have H := H1
          clear H1
          by_cases c22 : t517 = true
          · as_aux_lemma =>
            subst c22
            have H1 : (if t519 = true then (if t521 = true then (if t523 = true then (if t512 = t514 then (if t518 = t520 then (refrainlaw1_ValueRing.j0 k a0 a1 a2 t516 (t522 != a0)) else (refrainlaw1_ValueRing.j0 k a0 a1 a2 t516 true)) else (refrainlaw1_ValueRing.j0 k a0 a1 a2 t516 true)) else (refrainlaw1_ValueRing.j0 k a0 a1 a2 t516 true)) else (refrainlaw1_ValueRing.j0 k a0 a1 a2 t516 true)) else (refrainlaw1_ValueRing.j0 k a0 a1 a2 t516 true)) = some r := by rw [if_pos rfl] at H; exact H
            clear H
            have H := H1
            clear H1
            by_cases c23 : t519 = true
            · as_aux_lemma =>
              subst c23
              have H1 : (if t521 = true then (if t523 = true then (if t512 = t514 then (if t518 = t520 then (refrainlaw1_ValueRing.j0 k a0 a1 a2 t516 (t522 != a0)) else (refrainlaw1_ValueRing.j0 k a0 a1 a2 t516 true)) else (refrainlaw1_ValueRing.j0 k a0 a1 a2 t516 true)) else (refrainlaw1_ValueRing.j0 k a0 a1 a2 t516 true)) else (refrainlaw1_ValueRing.j0 k a0 a1 a2 t516 true)) = some r := by rw [if_pos rfl] at H; exact H
              clear H
              have H := H1
              clear H1
              by_cases c24 : t521 = true
              · as_aux_lemma =>
                subst c24
                have H1 : (if t523 = true then (if t512 = t514 then (if t518 = t520 then (refrainlaw1_ValueRing.j0 k a0 a1 a2 t516 (t522 != a0)) else (refrainlaw1_ValueRing.j0 k a0 a1 a2 t516 true)) else (refrainlaw1_ValueRing.j0 k a0 a1 a2 t516 true)) else (refrainlaw1_ValueRing.j0 k a0 a1 a2 t516 true)) = some r := by rw [if_pos rfl] at H; exact H
                clear H
                have H := H1
                clear H1
                by_cases c25 : t523 = true
                · as_aux_lemma =>
                  subst c25
                  have H1 : (if t512 = t514 then (if t518 = t520 then (refrainlaw1_ValueRing.j0 k a0 a1 a2 t516 (t522 != a0)) else (refrainlaw1_ValueRing.j0 k a0 a1 a2 t516 true)) else (refrainlaw1_ValueRing.j0 k a0 a1 a2 t516 true)) = some r := by rw [if_pos rfl] at H; exact H
                  clear H
                  have H := H1
                  clear H1
                  by_cases c26 : t512 = t514
                  · as_aux_lemma =>
                    rw [if_pos c26] at H
                    have c26b0 : (t512 == t514) = true := beq_iff_eq.mpr c26
                    have c26b1 : (t512 != t514) = false := bne_eq_false_iff_eq.mpr c26
                    clear c26
                    (first | rw [c26b0] | (simp only [i64_w, i32_w, IntKind.wrap_u8, IntKind.wrap_u16, IntKind.wrap_u32]; rw [c26b0]) | skip)
                    by_cases c27 : t518 = t520
                    · as_aux_lemma =>
                      rw [if_pos c27] at H
                      have c27b0 : (t518 == t520) = true := beq_iff_eq.mpr c27
                      have c27b1 : (t518 != t520) = false := bne_eq_false_iff_eq.mpr c27
                      clear c27
                      have H' := Aside0.mk H
                      clear H
                      go_wp2
                      go_meet
                      case rel => exact ⟨_, ((t522 != a0)), (by first | rfl | (simp; done) | (simp [*]; done) | (simp; unfold wrap64; omega)), H', ⟨by first | omega | exact Nat.le_refl _⟩, ⟨by repeat (first | (with_reducible first | exact HB.out | apply below_alloc | apply pw_below_drewN | apply below_drew1) | exact HB.out)⟩⟩
                    · as_aux_lemma =>
                      rw [if_neg c27] at H
                      have c27b0 : (t518 == t520) = false := beq_eq_false_iff_ne.mpr c27
                      have c27b1 : (t518 != t520) = true := bne_iff_ne.mpr c27
                      have H' := Aside0.mk H
                      clear H
                      go_wp2
                      go_meet
                      case rel => exact ⟨_, (true), (by first | rfl | (simp; done) | (simp [*]; done) | (simp; unfold wrap64; omega)), H', ⟨by first | omega | exact Nat.le_refl _⟩, ⟨by repeat (first | (with_reducible first | exact HB.out | apply below_alloc | apply pw_below_drewN | apply below_drew1) | exact HB.out)⟩⟩
                  · as_aux_lemma =>
                    rw [if_neg c26] at H
                    have c26b0 : (t512 == t514) = false := beq_eq_false_iff_ne.mpr c26
                    have c26b1 : (t512 != t514) = true := bne_iff_ne.mpr c26
                    (first | rw [c26b0] | (simp only [i64_w, i32_w, IntKind.wrap_u8, IntKind.wrap_u16, IntKind.wrap_u32]; rw [c26b0]) | skip)
                    have H' := Aside0.mk H
                    clear H
                    go_wp2
                    go_meet
                    case rel => exact ⟨_, (true), (by first | rfl | (simp; done) | (simp [*]; done) | (simp; unfold wrap64; omega)), H', ⟨by first | omega | exact Nat.le_refl _⟩, ⟨by repeat (first | (with_reducible first | exact HB.out | apply below_alloc | apply pw_below_drewN | apply below_drew1) | exact HB.out)⟩⟩
                · as_aux_lemma =>
                  replace c25 := Bool.eq_false_iff.mpr c25
                  subst c25
                  have H1 : (refrainlaw1_ValueRing.j0 k a0 a1 a2 t516 true) = some r := by rw [if_neg (show ¬ (false = true) by decide)] at H; exact H
                  clear H
                  have H := H1
                  clear H1
                  have H' := Aside0.mk H
                  clear H
                  go_wp2
                  go_meet
                  case rel => exact ⟨_, (true), (by first | rfl | (simp; done) | (simp [*]; done) | (simp; unfold wrap64; omega)), H', ⟨by first | omega | exact Nat.le_refl _⟩, ⟨by repeat (first | (with_reducible first | exact HB.out | apply below_alloc | apply pw_below_drewN | apply below_drew1) | exact HB.out)⟩⟩
              · as_aux_lemma =>
                replace c24 := Bool.eq_false_iff.mpr c24
                subst c24
                have H1 : (refrainlaw1_ValueRing.j0 k a0 a1 a2 t516 true) = some r := by rw [if_neg (show ¬ (false = true) by decide)] at H; exact H
                clear H
                have H := H1
                clear H1
                have H' := Aside0.mk H
                clear H
                go_wp2
                go_meet
                case rel => exact ⟨_, (true), (by first | rfl | (simp; done) | (simp [*]; done) | (simp; unfold wrap64; omega)), H', ⟨by first | omega | exact Nat.le_refl _⟩, ⟨by repeat (first | (with_reducible first | exact HB.out | apply below_alloc | apply pw_below_drewN | apply below_drew1) | exact HB.out)⟩⟩
            · as_aux_lemma =>
              replace c23 := Bool.eq_false_iff.mpr c23
              subst c23
              have H1 : (refrainlaw1_ValueRing.j0 k a0 a1 a2 t516 true) = some r := by rw [if_neg (show ¬ (false = true) by decide)] at H; exact H
              clear H
              have H := H1
              clear H1
              have H' := Aside0.mk H
              clear H
              go_wp2
              go_meet
              case rel => exact ⟨_, (true), (by first | rfl | (simp; done) | (simp [*]; done) | (simp; unfold wrap64; omega)), H', ⟨by first | omega | exact Nat.le_refl _⟩, ⟨by repeat (first | (with_reducible first | exact HB.out | apply below_alloc | apply pw_below_drewN | apply below_drew1) | exact HB.out)⟩⟩
          · as_aux_lemma =>
            replace c22 := Bool.eq_false_iff.mpr c22
            subst c22
            have H1 : (refrainlaw1_ValueRing.j0 k a0 a1 a2 t516 true) = some r := by rw [if_neg (show ¬ (false = true) by decide)] at H; exact H
            clear H
            have H := H1
            clear H1
            have H' := Aside0.mk H
            clear H
            go_wp2
            go_meet
            case rel => exact ⟨_, (true), (by first | rfl | (simp; done) | (simp [*]; done) | (simp; unfold wrap64; omega)), H', ⟨by first | omega | exact Nat.le_refl _⟩, ⟨by repeat (first | (with_reducible first | exact HB.out | apply below_alloc | apply pw_below_drewN | apply below_drew1) | exact HB.out)⟩⟩
        · as_aux_lemma =>
          replace c21 := Bool.eq_false_iff.mpr c21
          subst c21
          have H1 : (refrainlaw1_ValueRing.j0 k a0 a1 a2 t516 true) = some r := by rw [if_neg (show ¬ (false = true) by decide)] at H; exact H
          clear H
          have H := H1
          clear H1
          have H' := Aside0.mk H
          clear H
          go_wp2
          go_meet
          case rel => exact ⟨_, (true), (by first | rfl | (simp; done) | (simp [*]; done) | (simp; unfold wrap64; omega)), H', ⟨by first | omega | exact Nat.le_refl _⟩, ⟨by repeat (first | (with_reducible first | exact HB.out | apply below_alloc | apply pw_below_drewN | apply below_drew1) | exact HB.out)⟩⟩
      · as_aux_lemma =>
        replace c20 := Bool.eq_false_iff.mpr c20
        subst c20
        have H1 : (refrainlaw1_ValueRing.j0 k a0 a1 a2 t516 true) = some r := by rw [if_neg (show ¬ (false = true) by decide)] at H; exact H
        clear H
        have H := H1
        clear H1
        have H' := Aside0.mk H
        clear H
        go_wp2
        go_meet
        case rel => exact ⟨_, (true), (by first | rfl | (simp; done) | (simp [*]; done) | (simp; unfold wrap64; omega)), H', ⟨by first | omega | exact Nat.le_refl _⟩, ⟨by repeat (first | (with_reducible first | exact HB.out | apply below_alloc | apply pw_below_drewN | apply below_drew1) | exact HB.out)⟩⟩
    case rest =>
      clear HC12
      try clear c1
      try clear c2
      try clear p2
      try clear c5
      try clear c8
      try clear c10
      try clear c20
      try clear c21
      try clear c22
      try clear c23
      try clear c24
      try clear c25
      try clear c26
      try clear c26b0
      try clear c26b1
      try clear c27
      try clear c27b0
      try clear c27b1
      obtain ⟨kq, x107_11, rfl, HA, HJ11, HB⟩ := hcut
      cases kq with
      | zero => (have HA2 := HA.out; clear HA; revert HA2; rw [refrainlaw1_ValueRing.j0_zero]; intro h_; cases h_)
      | succ kj11 =>
        have H := HA.out
        clear HA
        simp only [refrainlaw1_ValueRing.j0] at H
        by_cases c28 : x107_11 = true
        · as_aux_lemma =>
          subst c28
          have H1 : (some false) = some r := by rw [if_pos rfl] at H; exact H
          clear H
          have H := H1
          clear H1
          exact absurd ((Option.some.inj H).trans hr.out) Bool.false_ne_true
        · as_aux_lemma =>
          replace c28 := Bool.eq_false_iff.mpr c28
          subst c28
          have H1 : ((refrainlaw1_of.f kj11 5 a0 a1).bind fun bt524 => ((refrainlaw1_of.f kj11 5 a1 a0).bind fun bt526 => ((refrainlaw1_of.f kj11 5 a0 a2).bind fun bt528 => ((refrainlaw1_of.f kj11 5 a1 a2).bind fun bt530 => ((refrainlaw1_of.f kj11 5 bt524.1 a2).bind fun bt532 => ((refrainlaw1_of.f kj11 5 a0 bt530.1).bind fun bt534 => (if bt524.2 = true then (if bt526.2 = true then (if bt528.2 = true then (if bt530.2 = true then (if bt532.2 = true then (if bt534.2 = true then (if bt524.1 = bt526.1 then (refrainlaw1_ValueRing.j1 kj11 a0 t516 bt524.1 bt528.1 (bt532.1 != bt534.1)) else (refrainlaw1_ValueRing.j1 kj11 a0 t516 bt524.1 bt528.1 true)) else (refrainlaw1_ValueRing.j1 kj11 a0 t516 bt524.1 bt528.1 true)) else (refrainlaw1_ValueRing.j1 kj11 a0 t516 bt524.1 bt528.1 true)) else (refrainlaw1_ValueRing.j1 kj11 a0 t516 bt524.1 bt528.1 true)) else (refrainlaw1_ValueRing.j1 kj11 a0 t516 bt524.1 bt528.1 true)) else (refrainlaw1_ValueRing.j1 kj11 a0 t516 bt524.1 bt528.1 true)) else (refrainlaw1_ValueRing.j1 kj11 a0 t516 bt524.1 bt528.1 true)))))))) = some r := by rw [if_neg (show ¬ (false = true) by decide)] at H; exact H
          clear H
          have H := H1
          clear H1
          replace H := Option.bind_eq_some_iff.mp H
          obtain ⟨⟨t524, t525⟩, A290, H⟩ := H
          replace H : ((refrainlaw1_of.f kj11 5 a1 a0).bind fun bt526 => ((refrainlaw1_of.f kj11 5 a0 a2).bind fun bt528 => ((refrainlaw1_of.f kj11 5 a1 a2).bind fun bt530 => ((refrainlaw1_of.f kj11 5 t524 a2).bind fun bt532 => ((refrainlaw1_of.f kj11 5 a0 bt530.1).bind fun bt534 => (if t525 = true then (if bt526.2 = true then (if bt528.2 = true then (if bt530.2 = true then (if bt532.2 = true then (if bt534.2 = true then (if t524 = bt526.1 then (refrainlaw1_ValueRing.j1 kj11 a0 t516 t524 bt528.1 (bt532.1 != bt534.1)) else (refrainlaw1_ValueRing.j1 kj11 a0 t516 t524 bt528.1 true)) else (refrainlaw1_ValueRing.j1 kj11 a0 t516 t524 bt528.1 true)) else (refrainlaw1_ValueRing.j1 kj11 a0 t516 t524 bt528.1 true)) else (refrainlaw1_ValueRing.j1 kj11 a0 t516 t524 bt528.1 true)) else (refrainlaw1_ValueRing.j1 kj11 a0 t516 t524 bt528.1 true)) else (refrainlaw1_ValueRing.j1 kj11 a0 t516 t524 bt528.1 true)) else (refrainlaw1_ValueRing.j1 kj11 a0 t516 t524 bt528.1 true))))))) = some r := H
          have A29 := Aside0.mk A290
          clear A290
          replace H := Option.bind_eq_some_iff.mp H
          obtain ⟨⟨t526, t527⟩, A300, H⟩ := H
          replace H : ((refrainlaw1_of.f kj11 5 a0 a2).bind fun bt528 => ((refrainlaw1_of.f kj11 5 a1 a2).bind fun bt530 => ((refrainlaw1_of.f kj11 5 t524 a2).bind fun bt532 => ((refrainlaw1_of.f kj11 5 a0 bt530.1).bind fun bt534 => (if t525 = true then (if t527 = true then (if bt528.2 = true then (if bt530.2 = true then (if bt532.2 = true then (if bt534.2 = true then (if t524 = t526 then (refrainlaw1_ValueRing.j1 kj11 a0 t516 t524 bt528.1 (bt532.1 != bt534.1)) else (refrainlaw1_ValueRing.j1 kj11 a0 t516 t524 bt528.1 true)) else (refrainlaw1_ValueRing.j1 kj11 a0 t516 t524 bt528.1 true)) else (refrainlaw1_ValueRing.j1 kj11 a0 t516 t524 bt528.1 true)) else (refrainlaw1_ValueRing.j1 kj11 a0 t516 t524 bt528.1 true)) else (refrainlaw1_ValueRing.j1 kj11 a0 t516 t524 bt528.1 true)) else (refrainlaw1_ValueRing.j1 kj11 a0 t516 t524 bt528.1 true)) else (refrainlaw1_ValueRing.j1 kj11 a0 t516 t524 bt528.1 true)))))) = some r := H
          have A30 := Aside0.mk A300
          clear A300
          replace H := Option.bind_eq_some_iff.mp H
          obtain ⟨⟨t528, t529⟩, A310, H⟩ := H
          replace H : ((refrainlaw1_of.f kj11 5 a1 a2).bind fun bt530 => ((refrainlaw1_of.f kj11 5 t524 a2).bind fun bt532 => ((refrainlaw1_of.f kj11 5 a0 bt530.1).bind fun bt534 => (if t525 = true then (if t527 = true then (if t529 = true then (if bt530.2 = true then (if bt532.2 = true then (if bt534.2 = true then (if t524 = t526 then (refrainlaw1_ValueRing.j1 kj11 a0 t516 t524 t528 (bt532.1 != bt534.1)) else (refrainlaw1_ValueRing.j1 kj11 a0 t516 t524 t528 true)) else (refrainlaw1_ValueRing.j1 kj11 a0 t516 t524 t528 true)) else (refrainlaw1_ValueRing.j1 kj11 a0 t516 t524 t528 true)) else (refrainlaw1_ValueRing.j1 kj11 a0 t516 t524 t528 true)) else (refrainlaw1_ValueRing.j1 kj11 a0 t516 t524 t528 true)) else (refrainlaw1_ValueRing.j1 kj11 a0 t516 t524 t528 true)) else (refrainlaw1_ValueRing.j1 kj11 a0 t516 t524 t528 true))))) = some r := H
          have A31 := Aside0.mk A310
          clear A310
          replace H := Option.bind_eq_some_iff.mp H
          obtain ⟨⟨t530, t531⟩, A320, H⟩ := H
          replace H : ((refrainlaw1_of.f kj11 5 t524 a2).bind fun bt532 => ((refrainlaw1_of.f kj11 5 a0 t530).bind fun bt534 => (if t525 = true then (if t527 = true then (if t529 = true then (if t531 = true then (if bt532.2 = true then (if bt534.2 = true then (if t524 = t526 then (refrainlaw1_ValueRing.j1 kj11 a0 t516 t524 t528 (bt532.1 != bt534.1)) else (refrainlaw1_ValueRing.j1 kj11 a0 t516 t524 t528 true)) else (refrainlaw1_ValueRing.j1 kj11 a0 t516 t524 t528 true)) else (refrainlaw1_ValueRing.j1 kj11 a0 t516 t524 t528 true)) else (refrainlaw1_ValueRing.j1 kj11 a0 t516 t524 t528 true)) else (refrainlaw1_ValueRing.j1 kj11 a0 t516 t524 t528 true)) else (refrainlaw1_ValueRing.j1 kj11 a0 t516 t524 t528 true)) else (refrainlaw1_ValueRing.j1 kj11 a0 t516 t524 t528 true)))) = some r := H
          have A32 := Aside0.mk A320
          clear A320
          replace H := Option.bind_eq_some_iff.mp H
          obtain ⟨⟨t532, t533⟩, A330, H⟩ := H
          replace H : ((refrainlaw1_of.f kj11 5 a0 t530).bind fun bt534 => (if t525 = true then (if t527 = true then (if t529 = true then (if t531 = true then (if t533 = true then (if bt534.2 = true then (if t524 = t526 then (refrainlaw1_ValueRing.j1 kj11 a0 t516 t524 t528 (t532 != bt534.1)) else (refrainlaw1_ValueRing.j1 kj11 a0 t516 t524 t528 true)) else (refrainlaw1_ValueRing.j1 kj11 a0 t516 t524 t528 true)) else (refrainlaw1_ValueRing.j1 kj11 a0 t516 t524 t528 true)) else (refrainlaw1_ValueRing.j1 kj11 a0 t516 t524 t528 true)) else (refrainlaw1_ValueRing.j1 kj11 a0 t516 t524 t528 true)) else (refrainlaw1_ValueRing.j1 kj11 a0 t516 t524 t528 true)) else (refrainlaw1_ValueRing.j1 kj11 a0 t516 t524 t528 true))) = some r := H
          have A33 := Aside0.mk A330
          clear A330
          replace H := Option.bind_eq_some_iff.mp H
          obtain ⟨⟨t534, t535⟩, A340, H⟩ := H
          replace H : (if t525 = true then (if t527 = true then (if t529 = true then (if t531 = true then (if t533 = true then (if t535 = true then (if t524 = t526 then (refrainlaw1_ValueRing.j1 kj11 a0 t516 t524 t528 (t532 != t534)) else (refrainlaw1_ValueRing.j1 kj11 a0 t516 t524 t528 true)) else (refrainlaw1_ValueRing.j1 kj11 a0 t516 t524 t528 true)) else (refrainlaw1_ValueRing.j1 kj11 a0 t516 t524 t528 true)) else (refrainlaw1_ValueRing.j1 kj11 a0 t516 t524 t528 true)) else (refrainlaw1_ValueRing.j1 kj11 a0 t516 t524 t528 true)) else (refrainlaw1_ValueRing.j1 kj11 a0 t516 t524 t528 true)) else (refrainlaw1_ValueRing.j1 kj11 a0 t516 t524 t528 true)) = some r := H
          have A34 := Aside0.mk A340
          clear A340
          have HC35 := Aside0.mk H
          clear H
          go_upto_region 18 with (first | ((with_reducible refine gate_callee (f := 24) rfl ?_); refine goesL_ (some 111) rfl rfl Tryd.func24 (by kernel_rfl) rfl #[.int .i64 5, .int .i64 a0, .int .i64 a1] rfl (by (try simp only [List.map_toArray, List.map_cons, List.map_nil]); first | done | rfl | (simp only [List.length_drop, List.length_take]; rfl)) ?_; (with_reducible refine (refrainlaw1_of.calls kj11 5 a0 a1 t524 t525 _ ?side1 A29.out).mono ?_); (case side1 => first | (with_reducible exact HL_LG0) | exact ⟨LG0.below HL_LG0.out (by repeat (first | (with_reducible first | exact HB.out | apply below_alloc | apply pw_below_drewN | apply below_drew1) | exact HB.out))⟩); rintro e w36 ⟨rfl, hb⟩; refine ⟨_, rfl, ?_⟩; have n0_ := Aside0.mk (below_step (by repeat (first | (with_reducible first | exact HB.out | apply below_alloc | apply pw_below_drewN | apply below_drew1) | exact HB.out)) hb); clear HB; have HB := n0_; clear n0_; (try clear hb); (try clear hb2); (try clear hk); (try clear hi)) | ((with_reducible refine gate_callee (f := 24) rfl ?_); refine goesL_ (some 117) rfl rfl Tryd.func24 (by kernel_rfl) rfl #[.int .i64 5, .int .i64 a1, .int .i64 a0] rfl (by (try simp only [List.map_toArray, List.map_cons, List.map_nil]); first | done | rfl | (simp only [List.length_drop, List.length_take]; rfl)) ?_; (with_reducible refine (refrainlaw1_of.calls kj11 5 a1 a0 t526 t527 _ ?side1 A30.out).mono ?_); (case side1 => first | (with_reducible exact HL_LG0) | exact ⟨LG0.below HL_LG0.out (by repeat (first | (with_reducible first | exact HB.out | apply below_alloc | apply pw_below_drewN | apply below_drew1) | exact HB.out))⟩); rintro e w37 ⟨rfl, hb⟩; refine ⟨_, rfl, ?_⟩; have n0_ := Aside0.mk (below_step (by repeat (first | (with_reducible first | exact HB.out | apply below_alloc | apply pw_below_drewN | apply below_drew1) | exact HB.out)) hb); clear HB; have HB := n0_; clear n0_; (try clear hb); (try clear hb2); (try clear hk); (try clear hi)) | ((with_reducible refine gate_callee (f := 24) rfl ?_); refine goesL_ (some 123) rfl rfl Tryd.func24 (by kernel_rfl) rfl #[.int .i64 5, .int .i64 a0, .int .i64 a2] rfl (by (try simp only [List.map_toArray, List.map_cons, List.map_nil]); first | done | rfl | (simp only [List.length_drop, List.length_take]; rfl)) ?_; (with_reducible refine (refrainlaw1_of.calls kj11 5 a0 a2 t528 t529 _ ?side1 A31.out).mono ?_); (case side1 => first | (with_reducible exact HL_LG0) | exact ⟨LG0.below HL_LG0.out (by repeat (first | (with_reducible first | exact HB.out | apply below_alloc | apply pw_below_drewN | apply below_drew1) | exact HB.out))⟩); rintro e w38 ⟨rfl, hb⟩; refine ⟨_, rfl, ?_⟩; have n0_ := Aside0.mk (below_step (by repeat (first | (with_reducible first | exact HB.out | apply below_alloc | apply pw_below_drewN | apply below_drew1) | exact HB.out)) hb); clear HB; have HB := n0_; clear n0_; (try clear hb); (try clear hb2); (try clear hk); (try clear hi)) | ((with_reducible refine gate_callee (f := 24) rfl ?_); refine goesL_ (some 129) rfl rfl Tryd.func24 (by kernel_rfl) rfl #[.int .i64 5, .int .i64 a1, .int .i64 a2] rfl (by (try simp only [List.map_toArray, List.map_cons, List.map_nil]); first | done | rfl | (simp only [List.length_drop, List.length_take]; rfl)) ?_; (with_reducible refine (refrainlaw1_of.calls kj11 5 a1 a2 t530 t531 _ ?side1 A32.out).mono ?_); (case side1 => first | (with_reducible exact HL_LG0) | exact ⟨LG0.below HL_LG0.out (by repeat (first | (with_reducible first | exact HB.out | apply below_alloc | apply pw_below_drewN | apply below_drew1) | exact HB.out))⟩); rintro e w39 ⟨rfl, hb⟩; refine ⟨_, rfl, ?_⟩; have n0_ := Aside0.mk (below_step (by repeat (first | (with_reducible first | exact HB.out | apply below_alloc | apply pw_below_drewN | apply below_drew1) | exact HB.out)) hb); clear HB; have HB := n0_; clear n0_; (try clear hb); (try clear hb2); (try clear hk); (try clear hi)) | ((with_reducible refine gate_callee (f := 24) rfl ?_); refine goesL_ (some 135) rfl rfl Tryd.func24 (by kernel_rfl) rfl #[.int .i64 5, .int .i64 t524, .int .i64 a2] rfl (by (try simp only [List.map_toArray, List.map_cons, List.map_nil]); first | done | rfl | (simp only [List.length_drop, List.length_take]; rfl)) ?_; (with_reducible refine (refrainlaw1_of.calls kj11 5 t524 a2 t532 t533 _ ?side1 A33.out).mono ?_); (case side1 => first | (with_reducible exact HL_LG0) | exact ⟨LG0.below HL_LG0.out (by repeat (first | (with_reducible first | exact HB.out | apply below_alloc | apply pw_below_drewN | apply below_drew1) | exact HB.out))⟩); rintro e w40 ⟨rfl, hb⟩; refine ⟨_, rfl, ?_⟩; have n0_ := Aside0.mk (below_step (by repeat (first | (with_reducible first | exact HB.out | apply below_alloc | apply pw_below_drewN | apply below_drew1) | exact HB.out)) hb); clear HB; have HB := n0_; clear n0_; (try clear hb); (try clear hb2); (try clear hk); (try clear hi)) | ((with_reducible refine gate_callee (f := 24) rfl ?_); refine goesL_ (some 141) rfl rfl Tryd.func24 (by kernel_rfl) rfl #[.int .i64 5, .int .i64 a0, .int .i64 t530] rfl (by (try simp only [List.map_toArray, List.map_cons, List.map_nil]); first | done | rfl | (simp only [List.length_drop, List.length_take]; rfl)) ?_; (with_reducible refine (refrainlaw1_of.calls kj11 5 a0 t530 t534 t535 _ ?side1 A34.out).mono ?_); (case side1 => first | (with_reducible exact HL_LG0) | exact ⟨LG0.below HL_LG0.out (by repeat (first | (with_reducible first | exact HB.out | apply below_alloc | apply pw_below_drewN | apply below_drew1) | exact HB.out))⟩); rintro e w41 ⟨rfl, hb⟩; refine ⟨_, rfl, ?_⟩; have n0_ := Aside0.mk (below_step (by repeat (first | (with_reducible first | exact HB.out | apply below_alloc | apply pw_below_drewN | apply below_drew1) | exact HB.out)) hb); clear HB; have HB := n0_; clear n0_; (try clear hb); (try clear hb2); (try clear hk); (try clear hi)))
          (try simp only [Act.put, List.setIfInBounds_toArray, List.set_cons_zero, List.set_cons_succ])
          go_cut [175] (fun v175 wc => ∃ (kq : Nat) (x175_34 : Bool), v175 = .bool x175_34 ∧ Aside0 (refrainlaw1_ValueRing.j1 kq a0 t516 t524 t528 x175_34 = some r) ∧ Aside0 (kq ≤ kj11) ∧ Aside0 (Below w.heap.size w wc))
          case first =>
            have H := HC35.out
            clear HC35
            by_cases c42 : t525 = true
            · as_aux_lemma =>
              subst c42
              have H1 : (if t527 = true then (if t529 = true then (if t531 = true then (if t533 = true then (if t535 = true then (if t524 = t526 then (refrainlaw1_ValueRing.j1 kj11 a0 t516 t524 t528 (t532 != t534)) else (refrainlaw1_ValueRing.j1 kj11 a0 t516 t524 t528 true)) else (refrainlaw1_ValueRing.j1 kj11 a0 t516 t524 t528 true)) else (refrainlaw1_ValueRing.j1 kj11 a0 t516 t524 t528 true)) else (refrainlaw1_ValueRing.j1 kj11 a0 t516 t524 t528 true)) else (refrainlaw1_ValueRing.j1 kj11 a0 t516 t524 t528 true)) else (refrainlaw1_ValueRing.j1 kj11 a0 t516 t524 t528 true)) = some r := by rw [if_pos rfl] at H; exact H
              clear H
              have H := H1
              clear H1
              by_cases c43 : t527 = true
              · as_aux_lemma =>
                subst c43
                have H1 : (if t529 = true then (if t531 = true then (if t533 = true then (if t535 = true then (if t524 = t526 then (refrainlaw1_ValueRing.j1 kj11 a0 t516 t524 t528 (t532 != t534)) else (refrainlaw1_ValueRing.j1 kj11 a0 t516 t524 t528 true)) else (refrainlaw1_ValueRing.j1 kj11 a0 t516 t524 t528 true)) else (refrainlaw1_ValueRing.j1 kj11 a0 t516 t524 t528 true)) else (refrainlaw1_ValueRing.j1 kj11 a0 t516 t524 t528 true)) else (refrainlaw1_ValueRing.j1 kj11 a0 t516 t524 t528 true)) = some r := by rw [if_pos rfl] at H; exact H
                clear H
                have H := H1
                clear H1
                by_cases c44 : t529 = true
                · as_aux_lemma =>
                  subst c44
                  have H1 : (if t531 = true then (if t533 = true then (if t535 = true then (if t524 = t526 then (refrainlaw1_ValueRing.j1 kj11 a0 t516 t524 t528 (t532 != t534)) else (refrainlaw1_ValueRing.j1 kj11 a0 t516 t524 t528 true)) else (refrainlaw1_ValueRing.j1 kj11 a0 t516 t524 t528 true)) else (refrainlaw1_ValueRing.j1 kj11 a0 t516 t524 t528 true)) else (refrainlaw1_ValueRing.j1 kj11 a0 t516 t524 t528 true)) = some r := by rw [if_pos rfl] at H; exact H
                  clear H
                  have H := H1
                  clear H1
                  by_cases c45 : t531 = true
                  · as_aux_lemma =>
                    subst c45
                    have H1 : (if t533 = true then (if t535 = true then (if t524 = t526 then (refrainlaw1_ValueRing.j1 kj11 a0 t516 t524 t528 (t532 != t534)) else (refrainlaw1_ValueRing.j1 kj11 a0 t516 t524 t528 true)) else (refrainlaw1_ValueRing.j1 kj11 a0 t516 t524 t528 true)) else (refrainlaw1_ValueRing.j1 kj11 a0 t516 t524 t528 true)) = some r := by rw [if_pos rfl] at H; exact H
                    clear H
                    have H := H1
                    clear H1
                    by_cases c46 : t533 = true
                    · as_aux_lemma =>
                      subst c46
                      have H1 : (if t535 = true then (if t524 = t526 then (refrainlaw1_ValueRing.j1 kj11 a0 t516 t524 t528 (t532 != t534)) else (refrainlaw1_ValueRing.j1 kj11 a0 t516 t524 t528 true)) else (refrainlaw1_ValueRing.j1 kj11 a0 t516 t524 t528 true)) = some r := by rw [if_pos rfl] at H; exact H
                      clear H
                      have H := H1
                      clear H1
                      by_cases c47 : t535 = true
                      · as_aux_lemma =>
                        subst c47
                        have H1 : (if t524 = t526 then (refrainlaw1_ValueRing.j1 kj11 a0 t516 t524 t528 (t532 != t534)) else (refrainlaw1_ValueRing.j1 kj11 a0 t516 t524 t528 true)) = some r := by rw [if_pos rfl] at H; exact H
                        clear H
                        have H := H1
                        clear H1
                        by_cases c48 : t524 = t526
                        · as_aux_lemma =>
                          rw [if_pos c48] at H
                          have c48b0 : (t524 == t526) = true := beq_iff_eq.mpr c48
                          have c48b1 : (t524 != t526) = false := bne_eq_false_iff_eq.mpr c48
                          clear c48
                          (first | rw [c48b0] | (simp only [i64_w, i32_w, IntKind.wrap_u8, IntKind.wrap_u16, IntKind.wrap_u32]; rw [c48b0]) | skip)
                          have H' := Aside0.mk H
                          clear H
                          go_wp2
                          go_meet
                          case rel => exact ⟨_, ((t532 != t534)), (by first | rfl | (simp; done) | (simp [*]; done) | (simp; unfold wrap64; omega)), H', ⟨by have := HJ11.out; first | omega | exact Nat.le_refl _⟩, ⟨by repeat (first | (with_reducible first | exact HB.out | apply below_alloc | apply pw_below_drewN | apply below_drew1) | exact HB.out)⟩⟩
                        · as_aux_lemma =>
                          rw [if_neg c48] at H
                          have c48b0 : (t524 == t526) = false := beq_eq_false_iff_ne.mpr c48
                          have c48b1 : (t524 != t526) = true := bne_iff_ne.mpr c48
                          (first | rw [c48b0] | (simp only [i64_w, i32_w, IntKind.wrap_u8, IntKind.wrap_u16, IntKind.wrap_u32]; rw [c48b0]) | skip)
                          have H' := Aside0.mk H
                          clear H
                          go_wp2
                          go_meet
                          case rel => exact ⟨_, (true), (by first | rfl | (simp; done) | (simp [*]; done) | (simp; unfold wrap64; omega)), H', ⟨by have := HJ11.out; first | omega | exact Nat.le_refl _⟩, ⟨by repeat (first | (with_reducible first | exact HB.out | apply below_alloc | apply pw_below_drewN | apply below_drew1) | exact HB.out)⟩⟩
                      · as_aux_lemma =>
                        replace c47 := Bool.eq_false_iff.mpr c47
                        subst c47
                        have H1 : (refrainlaw1_ValueRing.j1 kj11 a0 t516 t524 t528 true) = some r := by rw [if_neg (show ¬ (false = true) by decide)] at H; exact H
                        clear H
                        have H := H1
                        clear H1
                        have H' := Aside0.mk H
                        clear H
                        go_wp2
                        go_meet
                        case rel => exact ⟨_, (true), (by first | rfl | (simp; done) | (simp [*]; done) | (simp; unfold wrap64; omega)), H', ⟨by have := HJ11.out; first | omega | exact Nat.le_refl _⟩, ⟨by repeat (first | (with_reducible first | exact HB.out | apply below_alloc | apply pw_below_drewN | apply below_drew1) | exact HB.out)⟩⟩
                    · as_aux_lemma =>
                      replace c46 := Bool.eq_false_iff.mpr c46
                      subst c46
                      have H1 : (refrainlaw1_ValueRing.j1 kj11 a0 t516 t524 t528 true) = some r := by rw [if_neg (show ¬ (false = true) by decide)] at H; exact H
                      clear H
                      have H := H1
                      clear H1
                      have H' := Aside0.mk H
                      clear H
                      go_wp2
                      go_meet
                      case rel => exact ⟨_, (true), (by first | rfl | (simp; done) | (simp [*]; done) | (simp; unfold wrap64; omega)), H', ⟨by have := HJ11.out; first | omega | exact Nat.le_refl _⟩, ⟨by repeat (first | (with_reducible first | exact HB.out | apply below_alloc | apply pw_below_drewN | apply below_drew1) | exact HB.out)⟩⟩
                  · as_aux_lemma =>
                    replace c45 := Bool.eq_false_iff.mpr c45
                    subst c45
                    have H1 : (refrainlaw1_ValueRing.j1 kj11 a0 t516 t524 t528 true) = some r := by rw [if_neg (show ¬ (false = true) by decide)] at H; exact H
                    clear H
                    have H := H1
                    clear H1
                    have H' := Aside0.mk H
                    clear H
                    go_wp2
                    go_meet
                    case rel => exact ⟨_, (true), (by first | rfl | (simp; done) | (simp [*]; done) | (simp; unfold wrap64; omega)), H', ⟨by have := HJ11.out; first | omega | exact Nat.le_refl _⟩, ⟨by repeat (first | (with_reducible first | exact HB.out | apply below_alloc | apply pw_below_drewN | apply below_drew1) | exact HB.out)⟩⟩
                · as_aux_lemma =>
                  replace c44 := Bool.eq_false_iff.mpr c44
                  subst c44
                  have H1 : (refrainlaw1_ValueRing.j1 kj11 a0 t516 t524 t528 true) = some r := by rw [if_neg (show ¬ (false = true) by decide)] at H; exact H
                  clear H
                  have H := H1
                  clear H1
                  have H' := Aside0.mk H
                  clear H
                  go_wp2
                  go_meet
                  case rel => exact ⟨_, (true), (by first | rfl | (simp; done) | (simp [*]; done) | (simp; unfold wrap64; omega)), H', ⟨by have := HJ11.out; first | omega | exact Nat.le_refl _⟩, ⟨by repeat (first | (with_reducible first | exact HB.out | apply below_alloc | apply pw_below_drewN | apply below_drew1) | exact HB.out)⟩⟩
              · as_aux_lemma =>
                replace c43 := Bool.eq_false_iff.mpr c43
                subst c43
                have H1 : (refrainlaw1_ValueRing.j1 kj11 a0 t516 t524 t528 true) = some r := by rw [if_neg (show ¬ (false = true) by decide)] at H; exact H
                clear H
                have H := H1
                clear H1
                have H' := Aside0.mk H
                clear H
                go_wp2
                go_meet
                case rel => exact ⟨_, (true), (by first | rfl | (simp; done) | (simp [*]; done) | (simp; unfold wrap64; omega)), H', ⟨by have := HJ11.out; first | omega | exact Nat.le_refl _⟩, ⟨by repeat (first | (with_reducible first | exact HB.out | apply below_alloc | apply pw_below_drewN | apply below_drew1) | exact HB.out)⟩⟩
            · as_aux_lemma =>
              replace c42 := Bool.eq_false_iff.mpr c42
              subst c42
              have H1 : (refrainlaw1_ValueRing.j1 kj11 a0 t516 t524 t528 true) = some r := by rw [if_neg (show ¬ (false = true) by decide)] at H; exact H
              clear H
              have H := H1
              clear H1
              have H' := Aside0.mk H
              clear H
              go_wp2
              go_meet
              case rel => exact ⟨_, (true), (by first | rfl | (simp; done) | (simp [*]; done) | (simp; unfold wrap64; omega)), H', ⟨by have := HJ11.out; first | omega | exact Nat.le_refl _⟩, ⟨by repeat (first | (with_reducible first | exact HB.out | apply below_alloc | apply pw_below_drewN | apply below_drew1) | exact HB.out)⟩⟩
          case rest =>
            clear HC35
            try clear c1
            try clear c2
            try clear p2
            try clear c4
            try clear c5
            try clear c8
            try clear c10
            try clear c20
            try clear c21
            try clear c22
            try clear c23
            try clear c24
            try clear c25
            try clear c26
            try clear c26b0
            try clear c26b1
            try clear c27
            try clear c27b0
            try clear c27b1
            try clear c28
            try clear c42
            try clear c43
            try clear c44
            try clear c45
            try clear c46
            try clear c47
            try clear c48
            try clear c48b0
            try clear c48b1
            try clear p2
            obtain ⟨kq, x175_34, rfl, HA, HJ34, HB⟩ := hcut
            cases kq with
            | zero => (have HA2 := HA.out; clear HA; revert HA2; rw [refrainlaw1_ValueRing.j1_zero]; intro h_; cases h_)
            | succ kj34 =>
              have H := HA.out
              clear HA
              simp only [refrainlaw1_ValueRing.j1] at H
              by_cases c49 : x175_34 = true
              · as_aux_lemma =>
                subst c49
                have H1 : (some false) = some r := by rw [if_pos rfl] at H; exact H
                clear H
                have H := H1
                clear H1
                exact absurd ((Option.some.inj H).trans hr.out) Bool.false_ne_true
              · as_aux_lemma =>
                replace c49 := Bool.eq_false_iff.mpr c49
                subst c49
                have H1 : ((refrainlaw1_of.f kj34 5 a0 t516).bind fun bt536 => ((refrainlaw1_of.f kj34 3 t524 t528).bind fun bt538 => ((refrainlaw1_of.f kj34 5 a0 1).bind fun bt540 => ((refrainlaw1_of.f kj34 4 0 a0).bind fun bt542 => ((value_Unary.f kj34 1 1 a0 (⟨#[]⟩ : ByteArray) false).bind fun bt544 => (if bt536.2 = true then (if bt538.2 = true then (if bt540.2 = true then (if bt542.2 = true then (if bt536.1 = bt538.1 then (if bt540.1 = a0 then (if bt544.2.2.2.2 = 0 then (some (bt544.1 == 1 && (bt544.2.1 == bt542.1 && (bt544.2.2.1.toList == ([] : List UInt8) && (!bt544.2.2.2.1))))) else (some false)) else (some false)) else (some false)) else (some false)) else (some false)) else (some false)) else (some false))))))) = some r := by rw [if_neg (show ¬ (false = true) by decide)] at H; exact H
                clear H
                have H := H1
                clear H1
                replace H := Option.bind_eq_some_iff.mp H
                obtain ⟨⟨t536, t537⟩, A500, H⟩ := H
                replace H : ((refrainlaw1_of.f kj34 3 t524 t528).bind fun bt538 => ((refrainlaw1_of.f kj34 5 a0 1).bind fun bt540 => ((refrainlaw1_of.f kj34 4 0 a0).bind fun bt542 => ((value_Unary.f kj34 1 1 a0 (⟨#[]⟩ : ByteArray) false).bind fun bt544 => (if t537 = true then (if bt538.2 = true then (if bt540.2 = true then (if bt542.2 = true then (if t536 = bt538.1 then (if bt540.1 = a0 then (if bt544.2.2.2.2 = 0 then (some (bt544.1 == 1 && (bt544.2.1 == bt542.1 && (bt544.2.2.1.toList == ([] : List UInt8) && (!bt544.2.2.2.1))))) else (some false)) else (some false)) else (some false)) else (some false)) else (some false)) else (some false)) else (some false)))))) = some r := H
                have A50 := Aside0.mk A500
                clear A500
                replace H := Option.bind_eq_some_iff.mp H
                obtain ⟨⟨t538, t539⟩, A510, H⟩ := H
                replace H : ((refrainlaw1_of.f kj34 5 a0 1).bind fun bt540 => ((refrainlaw1_of.f kj34 4 0 a0).bind fun bt542 => ((value_Unary.f kj34 1 1 a0 (⟨#[]⟩ : ByteArray) false).bind fun bt544 => (if t537 = true then (if t539 = true then (if bt540.2 = true then (if bt542.2 = true then (if t536 = t538 then (if bt540.1 = a0 then (if bt544.2.2.2.2 = 0 then (some (bt544.1 == 1 && (bt544.2.1 == bt542.1 && (bt544.2.2.1.toList == ([] : List UInt8) && (!bt544.2.2.2.1))))) else (some false)) else (some false)) else (some false)) else (some false)) else (some false)) else (some false)) else (some false))))) = some r := H
                have A51 := Aside0.mk A510
                clear A510
                replace H := Option.bind_eq_some_iff.mp H
                obtain ⟨⟨t540, t541⟩, A520, H⟩ := H
                replace H : ((refrainlaw1_of.f kj34 4 0 a0).bind fun bt542 => ((value_Unary.f kj34 1 1 a0 (⟨#[]⟩ : ByteArray) false).bind fun bt544 => (if t537 = true then (if t539 = true then (if t541 = true then (if bt542.2 = true then (if t536 = t538 then (if t540 = a0 then (if bt544.2.2.2.2 = 0 then (some (bt544.1 == 1 && (bt544.2.1 == bt542.1 && (bt544.2.2.1.toList == ([] : List UInt8) && (!bt544.2.2.2.1))))) else (some false)) else (some false)) else (some false)) else (some false)) else (some false)) else (some false)) else (some false)))) = some r := H
                have A52 := Aside0.mk A520
                clear A520
                replace H := Option.bind_eq_some_iff.mp H
                obtain ⟨⟨t542, t543⟩, A530, H⟩ := H
                replace H : ((value_Unary.f kj34 1 1 a0 (⟨#[]⟩ : ByteArray) false).bind fun bt544 => (if t537 = true then (if t539 = true then (if t541 = true then (if t543 = true then (if t536 = t538 then (if t540 = a0 then (if bt544.2.2.2.2 = 0 then (some (bt544.1 == 1 && (bt544.2.1 == t542 && (bt544.2.2.1.toList == ([] : List UInt8) && (!bt544.2.2.2.1))))) else (some false)) else (some false)) else (some false)) else (some false)) else (some false)) else (some false)) else (some false))) = some r := H
                have A53 := Aside0.mk A530
                clear A530
                replace H := Option.bind_eq_some_iff.mp H
                obtain ⟨⟨t544, t545, t546, t547, t548⟩, A540, H⟩ := H
                replace H : (if t537 = true then (if t539 = true then (if t541 = true then (if t543 = true then (if t536 = t538 then (if t540 = a0 then (if t548 = 0 then (some (t544 == 1 && (t545 == t542 && (t546.toList == ([] : List UInt8) && (!t547))))) else (some false)) else (some false)) else (some false)) else (some false)) else (some false)) else (some false)) else (some false)) = some r := H
                have A54 := Aside0.mk A540
                clear A540
                by_cases c55 : t537 = true
                · as_aux_lemma =>
                  subst c55
                  have H1 : (if t539 = true then (if t541 = true then (if t543 = true then (if t536 = t538 then (if t540 = a0 then (if t548 = 0 then (some (t544 == 1 && (t545 == t542 && (t546.toList == ([] : List UInt8) && (!t547))))) else (some false)) else (some false)) else (some false)) else (some false)) else (some false)) else (some false)) = some r := by rw [if_pos rfl] at H; exact H
                  clear H
                  have H := H1
                  clear H1
                  by_cases c56 : t539 = true
                  · as_aux_lemma =>
                    subst c56
                    have H1 : (if t541 = true then (if t543 = true then (if t536 = t538 then (if t540 = a0 then (if t548 = 0 then (some (t544 == 1 && (t545 == t542 && (t546.toList == ([] : List UInt8) && (!t547))))) else (some false)) else (some false)) else (some false)) else (some false)) else (some false)) = some r := by rw [if_pos rfl] at H; exact H
                    clear H
                    have H := H1
                    clear H1
                    by_cases c57 : t541 = true
                    · as_aux_lemma =>
                      subst c57
                      have H1 : (if t543 = true then (if t536 = t538 then (if t540 = a0 then (if t548 = 0 then (some (t544 == 1 && (t545 == t542 && (t546.toList == ([] : List UInt8) && (!t547))))) else (some false)) else (some false)) else (some false)) else (some false)) = some r := by rw [if_pos rfl] at H; exact H
                      clear H
                      have H := H1
                      clear H1
                      by_cases c58 : t543 = true
                      · as_aux_lemma =>
                        subst c58
                        have H1 : (if t536 = t538 then (if t540 = a0 then (if t548 = 0 then (some (t544 == 1 && (t545 == t542 && (t546.toList == ([] : List UInt8) && (!t547))))) else (some false)) else (some false)) else (some false)) = some r := by rw [if_pos rfl] at H; exact H
                        clear H
                        have H := H1
                        clear H1
                        by_cases c59 : t536 = t538
                        · as_aux_lemma =>
                          rw [if_pos c59] at H
                          have c59b0 : (t536 == t538) = true := beq_iff_eq.mpr c59
                          have c59b1 : (t536 != t538) = false := bne_eq_false_iff_eq.mpr c59
                          clear c59
                          by_cases c60 : t540 = a0
                          · as_aux_lemma =>
                            rw [if_pos c60] at H
                            have c60b0 : (t540 == a0) = true := beq_iff_eq.mpr c60
                            have c60b1 : (t540 != a0) = false := bne_eq_false_iff_eq.mpr c60
                            clear c60
                            by_cases c61 : t548 = 0
                            · as_aux_lemma =>
                              rw [if_pos c61] at H
                              have c61b0 : (t548 == 0) = true := beq_iff_eq.mpr c61
                              have c61b1 : (t548 != 0) = false := bne_eq_false_iff_eq.mpr c61
                              clear c61
                              obtain rfl := Option.some.inj H
                              go_wp2_with (first | ((with_reducible refine gate_callee (f := 24) rfl ?_); refine goesL_ (some 179) rfl rfl Tryd.func24 (by kernel_rfl) rfl #[.int .i64 5, .int .i64 a0, .int .i64 t516] rfl (by (try simp only [List.map_toArray, List.map_cons, List.map_nil]); first | done | rfl | (simp only [List.length_drop, List.length_take]; rfl)) ?_; (with_reducible refine (refrainlaw1_of.calls kj34 5 a0 t516 t536 true _ ?side1 A50.out).mono ?_); (case side1 => first | (with_reducible exact HL_LG0) | exact ⟨LG0.below HL_LG0.out (by repeat (first | (with_reducible first | exact HB.out | apply below_alloc | apply pw_below_drewN | apply below_drew1) | exact HB.out))⟩); rintro e w62 ⟨rfl, hb⟩; refine ⟨_, rfl, ?_⟩; have n0_ := Aside0.mk (below_step (by repeat (first | (with_reducible first | exact HB.out | apply below_alloc | apply pw_below_drewN | apply below_drew1) | exact HB.out)) hb); clear HB; have HB := n0_; clear n0_; (try clear hb); (try clear hb2); (try clear hk); (try clear hi)) | ((with_reducible refine gate_callee (f := 24) rfl ?_); refine goesL_ (some 185) rfl rfl Tryd.func24 (by kernel_rfl) rfl #[.int .i64 3, .int .i64 t524, .int .i64 t528] rfl (by (try simp only [List.map_toArray, List.map_cons, List.map_nil]); first | done | rfl | (simp only [List.length_drop, List.length_take]; rfl)) ?_; (with_reducible refine (refrainlaw1_of.calls kj34 3 t524 t528 t538 true _ ?side1 A51.out).mono ?_); (case side1 => first | (with_reducible exact HL_LG0) | exact ⟨LG0.below HL_LG0.out (by repeat (first | (with_reducible first | exact HB.out | apply below_alloc | apply pw_below_drewN | apply below_drew1) | exact HB.out))⟩); rintro e w63 ⟨rfl, hb⟩; refine ⟨_, rfl, ?_⟩; have n0_ := Aside0.mk (below_step (by repeat (first | (with_reducible first | exact HB.out | apply below_alloc | apply pw_below_drewN | apply below_drew1) | exact HB.out)) hb); clear HB; have HB := n0_; clear n0_; (try clear hb); (try clear hb2); (try clear hk); (try clear hi)) | ((with_reducible refine gate_callee (f := 24) rfl ?_); refine goesL_ (some 190) rfl rfl Tryd.func24 (by kernel_rfl) rfl #[.int .i64 5, .int .i64 a0, .int .i64 1] rfl (by (try simp only [List.map_toArray, List.map_cons, List.map_nil]); first | done | rfl | (simp only [List.length_drop, List.length_take]; rfl)) ?_; (with_reducible refine (refrainlaw1_of.calls kj34 5 a0 1 t540 true _ ?side1 A52.out).mono ?_); (case side1 => first | (with_reducible exact HL_LG0) | exact ⟨LG0.below HL_LG0.out (by repeat (first | (with_reducible first | exact HB.out | apply below_alloc | apply pw_below_drewN | apply below_drew1) | exact HB.out))⟩); rintro e w64 ⟨rfl, hb⟩; refine ⟨_, rfl, ?_⟩; have n0_ := Aside0.mk (below_step (by repeat (first | (with_reducible first | exact HB.out | apply below_alloc | apply pw_below_drewN | apply below_drew1) | exact HB.out)) hb); clear HB; have HB := n0_; clear n0_; (try clear hb); (try clear hb2); (try clear hk); (try clear hi)) | ((with_reducible refine gate_callee (f := 24) rfl ?_); refine goesL_ (some 195) rfl rfl Tryd.func24 (by kernel_rfl) rfl #[.int .i64 4, .int .i64 0, .int .i64 a0] rfl (by (try simp only [List.map_toArray, List.map_cons, List.map_nil]); first | done | rfl | (simp only [List.length_drop, List.length_take]; rfl)) ?_; (with_reducible refine (refrainlaw1_of.calls kj34 4 0 a0 t542 true _ ?side1 A53.out).mono ?_); (case side1 => first | (with_reducible exact HL_LG0) | exact ⟨LG0.below HL_LG0.out (by repeat (first | (with_reducible first | exact HB.out | apply below_alloc | apply pw_below_drewN | apply below_drew1) | exact HB.out))⟩); rintro e w65 ⟨rfl, hb⟩; refine ⟨_, rfl, ?_⟩; have n0_ := Aside0.mk (below_step (by repeat (first | (with_reducible first | exact HB.out | apply below_alloc | apply pw_below_drewN | apply below_drew1) | exact HB.out)) hb); clear HB; have HB := n0_; clear n0_; (try clear hb); (try clear hb2); (try clear hk); (try clear hi)) | ((with_reducible refine gate_callee (f := 22) rfl ?_); refine goesL_ (some 201) rfl rfl Tryd.func22 (by kernel_rfl) rfl #[.int .i64 1, .agg #[.int .i64 1, .int .i64 a0, .string (⟨#[]⟩ : ByteArray), .bool false]] rfl (by (try simp only [List.map_toArray, List.map_cons, List.map_nil]); first | done | rfl | (simp only [List.length_drop, List.length_take]; rfl)) ?_; (with_reducible refine (value_Unary.calls kj34 1 1 a0 (⟨#[]⟩ : ByteArray) false t544 t545 t546 t547 t548 _ ?side1 A54.out).mono ?_); (case side1 => first | (with_reducible exact HL_LG0) | exact ⟨LG0.below HL_LG0.out (by repeat (first | (with_reducible first | exact HB.out | apply below_alloc | apply pw_below_drewN | apply below_drew1) | exact HB.out))⟩); rintro e w66 ⟨rfl, hb⟩; refine ⟨_, rfl, ?_⟩; have n0_ := Aside0.mk (below_step (by repeat (first | (with_reducible first | exact HB.out | apply below_alloc | apply pw_below_drewN | apply below_drew1) | exact HB.out)) hb); clear HB; have HB := n0_; clear n0_; (try clear hb); (try clear hb2); (try clear hk); (try clear hi)) | ((with_reducible refine gate_dst (N := 30) rfl ?_); refine box_event ?hg (N := 30) ?hd (cs := #[.int .i64 0, .int .i64 0, .string (⟨#[]⟩ : ByteArray), .bool false]) (t := 26) ?hr ?_; (case hd => rfl); (case hg => rfl); (case hr => first | (go_simp; done) | (go_simp; rfl)); intro gb549 hg w67 hbox hb; have n0_ := Aside0.mk (below_step (by repeat (first | (with_reducible first | exact HB.out | apply below_alloc | apply pw_below_drewN | apply below_drew1) | exact HB.out)) hb); have n1_ := Aside0.mk (hbox); have n2_ := Aside0.mk ((by rw [hg]; exact (below_size (by repeat (first | (with_reducible first | exact HB.out | apply below_alloc | apply pw_below_drewN | apply below_drew1) | exact HB.out))) : w.heap.size ≤ gb549)); have n3_ := Aside0.mk ((by rw [hg]; exact (below_size (by repeat (first | (with_reducible first | exact HB.out | apply below_alloc | apply pw_below_drewN | apply below_drew1) | exact HB.out))) : w.heap.size ≤ gb549)); clear HB; have HB := n0_; have BK549 := n1_; have GW549 := n2_; have GE549 := n3_; clear n0_ n1_ n2_ n3_; clear hb hbox hg; have hcz68_0 : w67.cell? ⟨gb549, 0, none⟩ = some (.int .i64 0) := (blk_cell BK549.out 0).trans rfl; have hcz68_1 : w67.cell? ⟨gb549, 1, none⟩ = some (.int .i64 0) := (blk_cell BK549.out 1).trans rfl; have hcz68_2 : w67.cell? ⟨gb549, 2, none⟩ = some (.string (⟨#[]⟩ : ByteArray)) := (blk_cell BK549.out 2).trans rfl; have hcz68_3 : w67.cell? ⟨gb549, 3, none⟩ = some (.bool false) := (blk_cell BK549.out 3).trans rfl; have hfz68_0 := blk_frozen BK549.out 0; have hfz68_1 := blk_frozen BK549.out 1; have hfz68_2 := blk_frozen BK549.out 2; have hfz68_3 := blk_frozen BK549.out 3))
                              go_ret
                              exact ⟨by first | rfl | (simp [errW_none, errW_some] <;> rfl) | (simp [*, errW_none, errW_some] <;> rfl), by repeat (first | (with_reducible first | exact HB.out | apply below_alloc | apply pw_below_drewN | apply below_drew1 | refine below_set ?_ GE549.out) | exact HB.out)⟩
                            · as_aux_lemma =>
                              rw [if_neg c61] at H
                              have c61b0 : (t548 == 0) = false := beq_eq_false_iff_ne.mpr c61
                              have c61b1 : (t548 != 0) = true := bne_iff_ne.mpr c61
                              exact absurd ((Option.some.inj H).trans hr.out) Bool.false_ne_true
                          · as_aux_lemma =>
                            rw [if_neg c60] at H
                            have c60b0 : (t540 == a0) = false := beq_eq_false_iff_ne.mpr c60
                            have c60b1 : (t540 != a0) = true := bne_iff_ne.mpr c60
                            exact absurd ((Option.some.inj H).trans hr.out) Bool.false_ne_true
                        · as_aux_lemma =>
                          rw [if_neg c59] at H
                          have c59b0 : (t536 == t538) = false := beq_eq_false_iff_ne.mpr c59
                          have c59b1 : (t536 != t538) = true := bne_iff_ne.mpr c59
                          exact absurd ((Option.some.inj H).trans hr.out) Bool.false_ne_true
                      · as_aux_lemma =>
                        replace c58 := Bool.eq_false_iff.mpr c58
                        subst c58
                        have H1 : (some false) = some r := by rw [if_neg (show ¬ (false = true) by decide)] at H; exact H
                        clear H
                        have H := H1
                        clear H1
                        exact absurd ((Option.some.inj H).trans hr.out) Bool.false_ne_true
                    · as_aux_lemma =>
                      replace c57 := Bool.eq_false_iff.mpr c57
                      subst c57
                      have H1 : (some false) = some r := by rw [if_neg (show ¬ (false = true) by decide)] at H; exact H
                      clear H
                      have H := H1
                      clear H1
                      exact absurd ((Option.some.inj H).trans hr.out) Bool.false_ne_true
                  · as_aux_lemma =>
                    replace c56 := Bool.eq_false_iff.mpr c56
                    subst c56
                    have H1 : (some false) = some r := by rw [if_neg (show ¬ (false = true) by decide)] at H; exact H
                    clear H
                    have H := H1
                    clear H1
                    exact absurd ((Option.some.inj H).trans hr.out) Bool.false_ne_true
                · as_aux_lemma =>
                  replace c55 := Bool.eq_false_iff.mpr c55
                  subst c55
                  have H1 : (some false) = some r := by rw [if_neg (show ¬ (false = true) by decide)] at H; exact H
                  clear H
                  have H := H1
                  clear H1
                  exact absurd ((Option.some.inj H).trans hr.out) Bool.false_ne_true
  · as_aux_lemma =>
    replace c5 := Bool.eq_false_iff.mpr c5
    subst c5
    have H1 : (some false) = some r := by rw [if_neg (show ¬ (false = true) by decide)] at H; exact H
    clear H
    have H := H1
    clear H1
    exact absurd ((Option.some.inj H).trans hr.out) Bool.false_ne_true

/-- THE ONE PURE STATEMENT of refrainlaw1_ValueRing: yours. -/
def refrainlaw1_ValueRing.Pure : Prop := ∀ (a0 : Int) (a1 : Int) (a2 : Int), (Lit.int .i64 a0).wf = true → (Lit.int .i64 a1).wf = true → (Lit.int .i64 a2).wf = true → ∃ k, refrainlaw1_ValueRing.f k a0 a1 a2 = some true
theorem refrainlaw1_ValueRing.walk (P : refrainlaw1_ValueRing.Pure) (a0 : Int) (a1 : Int) (a2 : Int) (w : World) (w0 : (Lit.int .i64 a0).wf = true) (w1 : (Lit.int .i64 a1).wf = true) (w2 : (Lit.int .i64 a2).wf = true) (HL_LErr : Aside0 (LErr w)) (HL_LG0 : Aside0 (LG0 w)) (HL_LG1 : Aside0 (LG1 w)) (HL_LSyn : Aside0 (LSyn w)) :
    Calls Tryd.prog 8 #[.int .i64 a0, .int .i64 a1, .int .i64 a2] w fun e w' => e = .returned (.bool true) ∧ Below w.heap.size w w' := by
  obtain ⟨k, h⟩ := P a0 a1 a2 w0 w1 w2
  refine (refrainlaw1_ValueRing.calls k a0 a1 a2 true w HL_LErr HL_LG0 HL_LG1 HL_LSyn h rfl).mono ?_
  rintro e w' ⟨rfl, hd⟩
  exact ⟨rfl, hd⟩

end Go.Proofs.YthhpeeckiggpaaaDoor.Pr

-- printed by a patched copy of the kit's print, for this seat
import Derived.Test.YthmcapdakplhdaaDoorPrx0
import Derived.Test.YthmcapdakplhdaaDoorPrx13
namespace Go.Proofs.YthmcapdakplhdaaDoor.Pr
open Go.RowKit Go.Proofs.YthmcapdakplhdaaDoorW.PrintWords Go.Proofs.YthmcapdakplhdaaDoorW.PrintLast Go.Proofs.YthmcapdakplhdaaDoorW.PrintMore
attribute [local go_sem] max2_int min2_int max_two min_two max_three min_three max_four min_four   -- for this text's walks alone
attribute [local go_sem high] Go.Proofs.YthmcapdakplhdaaDoor.isSome_setCell
set_option maxRecDepth 100000
set_option linter.unusedVariables false
set_option linter.unusedSimpArgs false

/-! ### refrainlaw5_TokenLimits: function 8 -/
mutual
def refrainlaw5_TokenLimits.j0 : Nat → Int → Option (Bool)
  | 0, _ => none
  | k + 1, x0 => refrainlaw5_TokenLimits.l0 k x0 (⟨#[]⟩ : ByteArray) 0
def refrainlaw5_TokenLimits.l0 : Nat → Int → ByteArray → Int → Option (Bool)
  | 0, _, _, _ => none
  | k + 1, x0, x3, x4 => if x4 < 32 then ((some (([(wrap64 (97 + (Int.tmod (wrap64 (x0 + x4)) 26))) % 256] : List Int) : List Int)).bind fun y325 => (if x3.size + (strOfNums y325).size ≤ 9223372036854775807 then (refrainlaw5_TokenLimits.l0 k x0 (x3 ++ (strOfNums y325)) (wrap64 (x4 + 1))) else (none))) else (refrainlaw5_TokenLimits.l1 k x0 x3 (⟨#[]⟩ : ByteArray) 0)
def refrainlaw5_TokenLimits.l1 : Nat → Int → ByteArray → ByteArray → Int → Option (Bool)
  | 0, _, _, _, _ => none
  | k + 1, x0, x3, x5, x6 => if x6 < x0 then (if x5.size + 1 ≤ 9223372036854775807 then (refrainlaw5_TokenLimits.l1 k x0 x3 (x5 ++ (⟨#[32]⟩ : ByteArray)) (wrap64 (x6 + 1))) else (none)) else (refrainlaw5_TokenLimits.l2 k x0 x3 x5 (⟨#[]⟩ : ByteArray))
def refrainlaw5_TokenLimits.l2 : Nat → Int → ByteArray → ByteArray → ByteArray → Option (Bool)
  | 0, _, _, _, _ => none
  | k + 1, x0, x3, x5, x7 => if (x7.size : Int) < 4096 then (if x7.size + 1 ≤ 9223372036854775807 then (refrainlaw5_TokenLimits.l2 k x0 x3 x5 (x7 ++ (⟨#[32]⟩ : ByteArray))) else (none)) else (if x5.size + x3.size ≤ 9223372036854775807 then ((token_Scan.f k (x5 ++ x3)).bind fun bt328 => (if (x5 ++ x3).size + 1 ≤ 9223372036854775807 then ((token_Scan.f k ((x5 ++ x3) ++ (⟨#[57]⟩ : ByteArray))).bind fun bt333 => ((token_Scan.f k (⟨#[57, 50, 50, 51, 51, 55, 50, 48, 51, 54, 56, 53, 52, 55, 55, 53, 56, 48, 55]⟩ : ByteArray)).bind fun bt338 => ((token_Scan.f k (⟨#[57, 50, 50, 51, 51, 55, 50, 48, 51, 54, 56, 53, 52, 55, 55, 53, 56, 48, 56]⟩ : ByteArray)).bind fun bt343 => ((token_Scan.f k x7).bind fun bt348 => (if x7.size + 1 ≤ 9223372036854775807 then ((token_Scan.f k (x7 ++ (⟨#[32]⟩ : ByteArray))).bind fun bt353 => (if bt328.2.2 = 0 then (if (bt328.1.length : Int) = 2 then (if 0 < (bt328.1.length : Int) then (if ((rd_T44 bt328.1 0).f2) = x0 then (if bt333.2.2 = 51 then (if bt333.2.1 = x0 then (if bt338.2.2 = 0 then (if (bt338.1.length : Int) = 2 then (refrainlaw5_TokenLimits.j4 k x0 x5 x7 bt348.1 bt348.2.1 bt348.2.2 bt353.2.2 (bt343.2.2 != 51)) else (refrainlaw5_TokenLimits.j4 k x0 x5 x7 bt348.1 bt348.2.1 bt348.2.2 bt353.2.2 true)) else (refrainlaw5_TokenLimits.j4 k x0 x5 x7 bt348.1 bt348.2.1 bt348.2.2 bt353.2.2 true)) else (refrainlaw5_TokenLimits.j4 k x0 x5 x7 bt348.1 bt348.2.1 bt348.2.2 bt353.2.2 true)) else (refrainlaw5_TokenLimits.j4 k x0 x5 x7 bt348.1 bt348.2.1 bt348.2.2 bt353.2.2 true)) else (refrainlaw5_TokenLimits.j4 k x0 x5 x7 bt348.1 bt348.2.1 bt348.2.2 bt353.2.2 true)) else (none)) else (refrainlaw5_TokenLimits.j4 k x0 x5 x7 bt348.1 bt348.2.1 bt348.2.2 bt353.2.2 true)) else (refrainlaw5_TokenLimits.j4 k x0 x5 x7 bt348.1 bt348.2.1 bt348.2.2 bt353.2.2 true))) else (none)))))) else (none))) else (none))
def refrainlaw5_TokenLimits.j4 : Nat → Int → ByteArray → ByteArray → List (S44) → Int → Int → Int → Bool → Option (Bool)
  | 0, _, _, _, _, _, _, _, _ => none
  | k + 1, x0, x5, x7, x20, x21, x22, x25, x141 => if x141 = true then (some false) else (if x22 = 0 then (if x21 = 0 then (if (x20.length : Int) = 1 then (if 0 < (x20.length : Int) then (if ((rd_T44 x20 0).f2) = 4096 then (refrainlaw5_TokenLimits.j5 k x0 x5 x7 (x25 != 2)) else (refrainlaw5_TokenLimits.j5 k x0 x5 x7 true)) else (none)) else (refrainlaw5_TokenLimits.j5 k x0 x5 x7 true)) else (refrainlaw5_TokenLimits.j5 k x0 x5 x7 true)) else (refrainlaw5_TokenLimits.j5 k x0 x5 x7 true))
def refrainlaw5_TokenLimits.j5 : Nat → Int → ByteArray → ByteArray → Bool → Option (Bool)
  | 0, _, _, _, _ => none
  | k + 1, x0, x5, x7, x163 => if x163 = true then (some false) else (if 0 ≤ 256 then (if 256 ≤ (x7.size : Int) then (if x5.size + 1 ≤ 9223372036854775807 then (if (x5 ++ (⟨#[34]⟩ : ByteArray)).size + (x7.extract 0 256).size ≤ 9223372036854775807 then (if ((x5 ++ (⟨#[34]⟩ : ByteArray)) ++ (x7.extract 0 256)).size + 1 ≤ 9223372036854775807 then ((token_Scan.f k (((x5 ++ (⟨#[34]⟩ : ByteArray)) ++ (x7.extract 0 256)) ++ (⟨#[34]⟩ : ByteArray))).bind fun bt360 => (if ((x5 ++ (⟨#[34]⟩ : ByteArray)) ++ (x7.extract 0 256)).size + 2 ≤ 9223372036854775807 then ((token_Scan.f k (((x5 ++ (⟨#[34]⟩ : ByteArray)) ++ (x7.extract 0 256)) ++ (⟨#[32, 34]⟩ : ByteArray))).bind fun bt365 => (if bt360.2.2 = 0 then (if bt365.2.2 = 51 then (some (bt365.2.1 == x0)) else (some false)) else (some false))) else (none))) else (none)) else (none)) else (none)) else (none)) else (none))
end
def refrainlaw5_TokenLimits.f (k : Nat) (a0 : Int) : Option (Bool) := if (Int.tmod a0 40) < 0 then (refrainlaw5_TokenLimits.j0 k (wrap64 (-(Int.tmod a0 40)))) else (refrainlaw5_TokenLimits.j0 k (Int.tmod a0 40))
set_option maxRecDepth 100000 in
theorem refrainlaw5_TokenLimits.j0_zero : ∀ y0, refrainlaw5_TokenLimits.j0 0 y0 = none := fun _ => rfl
set_option maxRecDepth 100000 in
theorem refrainlaw5_TokenLimits.l0_zero : ∀ y0 y1 y2, refrainlaw5_TokenLimits.l0 0 y0 y1 y2 = none := fun _ _ _ => rfl
set_option maxRecDepth 100000 in
theorem refrainlaw5_TokenLimits.l1_zero : ∀ y0 y1 y2 y3, refrainlaw5_TokenLimits.l1 0 y0 y1 y2 y3 = none := fun _ _ _ _ => rfl
set_option maxRecDepth 100000 in
theorem refrainlaw5_TokenLimits.l2_zero : ∀ y0 y1 y2 y3, refrainlaw5_TokenLimits.l2 0 y0 y1 y2 y3 = none := fun _ _ _ _ => rfl
set_option maxRecDepth 100000 in
theorem refrainlaw5_TokenLimits.j4_zero : ∀ y0 y1 y2 y3 y4 y5 y6 y7, refrainlaw5_TokenLimits.j4 0 y0 y1 y2 y3 y4 y5 y6 y7 = none := fun _ _ _ _ _ _ _ _ => rfl
set_option maxRecDepth 100000 in
theorem refrainlaw5_TokenLimits.j5_zero : ∀ y0 y1 y2 y3, refrainlaw5_TokenLimits.j5 0 y0 y1 y2 y3 = none := fun _ _ _ _ => rfl
set_option maxRecDepth 100000 in
theorem refrainlaw5_TokenLimits.mono_l : ∀ k, (∀ y0, LeO (refrainlaw5_TokenLimits.j0 k y0) (refrainlaw5_TokenLimits.j0 (k + 1) y0)) ∧ (∀ y0 y1 y2, LeO (refrainlaw5_TokenLimits.l0 k y0 y1 y2) (refrainlaw5_TokenLimits.l0 (k + 1) y0 y1 y2)) ∧ (∀ y0 y1 y2 y3, LeO (refrainlaw5_TokenLimits.l1 k y0 y1 y2 y3) (refrainlaw5_TokenLimits.l1 (k + 1) y0 y1 y2 y3)) ∧ (∀ y0 y1 y2 y3, LeO (refrainlaw5_TokenLimits.l2 k y0 y1 y2 y3) (refrainlaw5_TokenLimits.l2 (k + 1) y0 y1 y2 y3)) ∧ (∀ y0 y1 y2 y3 y4 y5 y6 y7, LeO (refrainlaw5_TokenLimits.j4 k y0 y1 y2 y3 y4 y5 y6 y7) (refrainlaw5_TokenLimits.j4 (k + 1) y0 y1 y2 y3 y4 y5 y6 y7)) ∧ (∀ y0 y1 y2 y3, LeO (refrainlaw5_TokenLimits.j5 k y0 y1 y2 y3) (refrainlaw5_TokenLimits.j5 (k + 1) y0 y1 y2 y3))
  | 0 => ⟨fun _ r h => by (unfold refrainlaw5_TokenLimits.j0 at h; cases h), fun _ _ _ r h => by (unfold refrainlaw5_TokenLimits.l0 at h; cases h), fun _ _ _ _ r h => by (unfold refrainlaw5_TokenLimits.l1 at h; cases h), fun _ _ _ _ r h => by (unfold refrainlaw5_TokenLimits.l2 at h; cases h), fun _ _ _ _ _ _ _ _ r h => by (unfold refrainlaw5_TokenLimits.j4 at h; cases h), fun _ _ _ _ r h => by (unfold refrainlaw5_TokenLimits.j5 at h; cases h)⟩
  | k + 1 => by
    obtain ⟨ih0, ih1, ih2, ih3, ih4, ih5⟩ := refrainlaw5_TokenLimits.mono_l k
    refine ⟨?_, ?_, ?_, ?_, ?_, ?_⟩
    · intro y0
      unfold refrainlaw5_TokenLimits.j0
      repeat' first
      | (with_reducible exact ih0 _)
      | (with_reducible exact ih1 _ _ _)
      | (with_reducible exact ih2 _ _ _ _)
      | (with_reducible exact ih3 _ _ _ _)
      | (with_reducible exact ih4 _ _ _ _ _ _ _ _)
      | (with_reducible exact ih5 _ _ _ _)
      | (with_reducible exact token_Scan.mono _ _)
      | (with_reducible exact LeO.refl _)
      | (with_reducible exact LeO.none _)
      | (with_reducible refine LeO.ite ?_ ?_)
      | (with_reducible refine LeO.bind ?_ (fun _ => ?_))
      | exact ih0 _
      | exact ih1 _ _ _
      | exact ih2 _ _ _ _
      | exact ih3 _ _ _ _
      | exact ih4 _ _ _ _ _ _ _ _
      | exact ih5 _ _ _ _
      | exact token_Scan.mono _ _
      | exact LeO.none _
      | refine LeO.ite ?_ ?_
      | refine LeO.bind ?_ (fun _ => ?_)
    · intro y0 y1 y2
      unfold refrainlaw5_TokenLimits.l0
      repeat' first
      | (with_reducible exact ih0 _)
      | (with_reducible exact ih1 _ _ _)
      | (with_reducible exact ih2 _ _ _ _)
      | (with_reducible exact ih3 _ _ _ _)
      | (with_reducible exact ih4 _ _ _ _ _ _ _ _)
      | (with_reducible exact ih5 _ _ _ _)
      | (with_reducible exact token_Scan.mono _ _)
      | (with_reducible exact LeO.refl _)
      | (with_reducible exact LeO.none _)
      | (with_reducible refine LeO.ite ?_ ?_)
      | (with_reducible refine LeO.bind ?_ (fun _ => ?_))
      | exact ih0 _
      | exact ih1 _ _ _
      | exact ih2 _ _ _ _
      | exact ih3 _ _ _ _
      | exact ih4 _ _ _ _ _ _ _ _
      | exact ih5 _ _ _ _
      | exact token_Scan.mono _ _
      | exact LeO.none _
      | refine LeO.ite ?_ ?_
      | refine LeO.bind ?_ (fun _ => ?_)
    · intro y0 y1 y2 y3
      unfold refrainlaw5_TokenLimits.l1
      repeat' first
      | (with_reducible exact ih0 _)
      | (with_reducible exact ih1 _ _ _)
      | (with_reducible exact ih2 _ _ _ _)
      | (with_reducible exact ih3 _ _ _ _)
      | (with_reducible exact ih4 _ _ _ _ _ _ _ _)
      | (with_reducible exact ih5 _ _ _ _)
      | (with_reducible exact token_Scan.mono _ _)
      | (with_reducible exact LeO.refl _)
      | (with_reducible exact LeO.none _)
      | (with_reducible refine LeO.ite ?_ ?_)
      | (with_reducible refine LeO.bind ?_ (fun _ => ?_))
      | exact ih0 _
      | exact ih1 _ _ _
      | exact ih2 _ _ _ _
      | exact ih3 _ _ _ _
      | exact ih4 _ _ _ _ _ _ _ _
      | exact ih5 _ _ _ _
      | exact token_Scan.mono _ _
      | exact LeO.none _
      | refine LeO.ite ?_ ?_
      | refine LeO.bind ?_ (fun _ => ?_)
    · intro y0 y1 y2 y3
      unfold refrainlaw5_TokenLimits.l2
      repeat' first
      | (with_reducible exact ih0 _)
      | (with_reducible exact ih1 _ _ _)
      | (with_reducible exact ih2 _ _ _ _)
      | (with_reducible exact ih3 _ _ _ _)
      | (with_reducible exact ih4 _ _ _ _ _ _ _ _)
      | (with_reducible exact ih5 _ _ _ _)
      | (with_reducible exact token_Scan.mono _ _)
      | (with_reducible exact LeO.refl _)
      | (with_reducible exact LeO.none _)
      | (with_reducible refine LeO.ite ?_ ?_)
      | (with_reducible refine LeO.bind ?_ (fun _ => ?_))
      | exact ih0 _
      | exact ih1 _ _ _
      | exact ih2 _ _ _ _
      | exact ih3 _ _ _ _
      | exact ih4 _ _ _ _ _ _ _ _
      | exact ih5 _ _ _ _
      | exact token_Scan.mono _ _
      | exact LeO.none _
      | refine LeO.ite ?_ ?_
      | refine LeO.bind ?_ (fun _ => ?_)
    · intro y0 y1 y2 y3 y4 y5 y6 y7
      unfold refrainlaw5_TokenLimits.j4
      repeat' first
      | (with_reducible exact ih0 _)
      | (with_reducible exact ih1 _ _ _)
      | (with_reducible exact ih2 _ _ _ _)
      | (with_reducible exact ih3 _ _ _ _)
      | (with_reducible exact ih4 _ _ _ _ _ _ _ _)
      | (with_reducible exact ih5 _ _ _ _)
      | (with_reducible exact token_Scan.mono _ _)
      | (with_reducible exact LeO.refl _)
      | (with_reducible exact LeO.none _)
      | (with_reducible refine LeO.ite ?_ ?_)
      | (with_reducible refine LeO.bind ?_ (fun _ => ?_))
      | exact ih0 _
      | exact ih1 _ _ _
      | exact ih2 _ _ _ _
      | exact ih3 _ _ _ _
      | exact ih4 _ _ _ _ _ _ _ _
      | exact ih5 _ _ _ _
      | exact token_Scan.mono _ _
      | exact LeO.none _
      | refine LeO.ite ?_ ?_
      | refine LeO.bind ?_ (fun _ => ?_)
    · intro y0 y1 y2 y3
      unfold refrainlaw5_TokenLimits.j5
      repeat' first
      | (with_reducible exact ih0 _)
      | (with_reducible exact ih1 _ _ _)
      | (with_reducible exact ih2 _ _ _ _)
      | (with_reducible exact ih3 _ _ _ _)
      | (with_reducible exact ih4 _ _ _ _ _ _ _ _)
      | (with_reducible exact ih5 _ _ _ _)
      | (with_reducible exact token_Scan.mono _ _)
      | (with_reducible exact LeO.refl _)
      | (with_reducible exact LeO.none _)
      | (with_reducible refine LeO.ite ?_ ?_)
      | (with_reducible refine LeO.bind ?_ (fun _ => ?_))
      | exact ih0 _
      | exact ih1 _ _ _
      | exact ih2 _ _ _ _
      | exact ih3 _ _ _ _
      | exact ih4 _ _ _ _ _ _ _ _
      | exact ih5 _ _ _ _
      | exact token_Scan.mono _ _
      | exact LeO.none _
      | refine LeO.ite ?_ ?_
      | refine LeO.bind ?_ (fun _ => ?_)
set_option maxRecDepth 100000 in
theorem refrainlaw5_TokenLimits.mono : ∀ a0 k, LeO (refrainlaw5_TokenLimits.f k a0) (refrainlaw5_TokenLimits.f (k + 1) a0) := by
  intro a0 k
  obtain ⟨ih0, ih1, ih2, ih3, ih4, ih5⟩ := refrainlaw5_TokenLimits.mono_l k
  unfold refrainlaw5_TokenLimits.f
  repeat' first
      | (with_reducible exact ih0 _)
      | (with_reducible exact ih1 _ _ _)
      | (with_reducible exact ih2 _ _ _ _)
      | (with_reducible exact ih3 _ _ _ _)
      | (with_reducible exact ih4 _ _ _ _ _ _ _ _)
      | (with_reducible exact ih5 _ _ _ _)
      | (with_reducible exact token_Scan.mono _ _)
      | (with_reducible exact LeO.refl _)
      | (with_reducible exact LeO.none _)
      | (with_reducible refine LeO.ite ?_ ?_)
      | (with_reducible refine LeO.bind ?_ (fun _ => ?_))
      | exact ih0 _
      | exact ih1 _ _ _
      | exact ih2 _ _ _ _
      | exact ih3 _ _ _ _
      | exact ih4 _ _ _ _ _ _ _ _
      | exact ih5 _ _ _ _
      | exact token_Scan.mono _ _
      | exact LeO.none _
      | refine LeO.ite ?_ ?_
      | refine LeO.bind ?_ (fun _ => ?_)
set_option maxHeartbeats 8000000 in
set_option maxRecDepth 100000 in
theorem refrainlaw5_TokenLimits.calls (k : Nat) (a0 : Int) (r : Bool) (w : World) (HL_LErr : Aside0 (LErr w)) (h : refrainlaw5_TokenLimits.f k a0 = some r) :
    Calls Tryd.prog 8 #[.int .i64 a0] w fun e w' => e = .returned (.bool r) ∧ Below w.heap.size w w' := by
  have HB := Aside0.mk (Below.refl w.heap.size w)
  have H : (if (Int.tmod a0 40) < 0 then (refrainlaw5_TokenLimits.j0 k (wrap64 (-(Int.tmod a0 40)))) else (refrainlaw5_TokenLimits.j0 k (Int.tmod a0 40))) = some r := h
  clear h
  have HC2 := Aside0.mk H
  clear H
  go_enter Tryd.func8, Tryd.ntmps8
  go_upto_if 36 with (fail)
  go_cut [0] (fun v0 wc => ∃ (kq : Nat) (x0_1 : Int), v0 = .int .i64 x0_1 ∧ Aside0 (refrainlaw5_TokenLimits.j0 kq x0_1 = some r) ∧ Aside0 (kq ≤ k) ∧ Aside0 (Below w.heap.size w wc))
  case first =>
    have H := HC2.out
    clear HC2
    by_cases c3 : (Int.tmod a0 40) < 0
    · as_aux_lemma =>
      rw [if_pos c3] at H
      have c3b0 : decide ((Int.tmod a0 40) < 0) = true := decide_eq_true c3
      clear c3
      (first | rw [c3b0] | (simp only [i64_w, i32_w, IntKind.wrap_u8, IntKind.wrap_u16, IntKind.wrap_u32]; rw [c3b0]) | skip)
      have H' := Aside0.mk H
      clear H
      go_wp2
      go_meet
      case rel => exact ⟨_, (wrap64 (-(Int.tmod a0 40))), (by first | rfl | (simp; done) | (simp [*]; done) | (simp; unfold wrap64; omega)), H', ⟨by first | omega | exact Nat.le_refl _⟩, ⟨by repeat (first | (with_reducible first | exact HB.out | apply below_alloc | apply pw_below_drewN | apply below_drew1) | exact HB.out)⟩⟩
    · as_aux_lemma =>
      rw [if_neg c3] at H
      have c3b0 : decide ((Int.tmod a0 40) < 0) = false := decide_eq_false c3
      clear c3
      (first | rw [c3b0] | (simp only [i64_w, i32_w, IntKind.wrap_u8, IntKind.wrap_u16, IntKind.wrap_u32]; rw [c3b0]) | skip)
      have H' := Aside0.mk H
      clear H
      go_wp2
      go_meet
      case rel => exact ⟨_, (Int.tmod a0 40), (by first | rfl | (simp; done) | (simp [*]; done) | (simp; unfold wrap64; omega)), H', ⟨by first | omega | exact Nat.le_refl _⟩, ⟨by repeat (first | (with_reducible first | exact HB.out | apply below_alloc | apply pw_below_drewN | apply below_drew1) | exact HB.out)⟩⟩
  case rest =>
    clear HC2
    try clear p2
    try clear c3
    try clear c3b0
    obtain ⟨kq, x0_1, rfl, HA, HJ1, HB⟩ := hcut
    cases kq with
    | zero => (have HA2 := HA.out; clear HA; revert HA2; rw [refrainlaw5_TokenLimits.j0_zero]; intro h_; cases h_)
    | succ kj1 =>
      have H := HA.out
      clear HA
      simp only [refrainlaw5_TokenLimits.j0] at H
      have H' := Aside0.mk H
      clear H
      go_wp2
      go_loopg [3, 4] kj1 (fun kq v3 v4 w' => ∃ (x3_2 : ByteArray) (x4_2 : Int), v3 = .string x3_2 ∧ v4 = .int .i64 x4_2 ∧ Aside0 (refrainlaw5_TokenLimits.l0 kq x0_1 x3_2 x4_2 = some r) ∧ Aside0 (kq ≤ kj1) ∧ Aside0 (Below w.heap.size w w'))
      case atStart => exact ⟨((⟨#[]⟩ : ByteArray)), (0), (by first | rfl | (simp; done) | (simp [*]; done) | (simp; unfold wrap64; omega)), (by first | rfl | (simp; done) | (simp [*]; done) | (simp; unfold wrap64; omega)), H', ⟨Nat.le_refl _⟩, ⟨by repeat (first | (with_reducible first | exact HB.out | apply below_alloc | apply pw_below_drewN | apply below_drew1) | exact HB.out)⟩⟩
      case round =>
        clear H'
        try clear p2
        try clear c3
        try clear c3b0
        try clear p2
        obtain ⟨x3_2, x4_2, rfl, rfl, HA, HK2, HB⟩ := hrel
        cases gk with
        | zero => (have HA2 := HA.out; clear HA; revert HA2; rw [refrainlaw5_TokenLimits.l0_zero]; intro h_; cases h_)
        | succ k2 =>
          have H := HA.out
          clear HA
          simp only [refrainlaw5_TokenLimits.l0] at H
          by_cases c4 : x4_2 < 32
          · as_aux_lemma =>
            rw [if_pos c4] at H
            have c4b0 : decide (x4_2 < 32) = true := decide_eq_true c4
            clear c4
            obtain ⟨y325, hy325⟩ : ∃ y_ : List Int, y_ = (([(wrap64 (97 + (Int.tmod (wrap64 (x0_1 + x4_2)) 26))) % 256] : List Int)) := ⟨_, rfl⟩
            replace H : (if x3_2.size + (strOfNums y325).size ≤ 9223372036854775807 then (refrainlaw5_TokenLimits.l0 k2 x0_1 (x3_2 ++ (strOfNums y325)) (wrap64 (x4_2 + 1))) else (none)) = some r := by first | (rw [hy325]; with_reducible exact H) | (have H2_ := (Option.bind_some _ _).symm.trans H; rw [hy325]; with_reducible exact H2_) | (have H2_ := (Option.bind_some _ _).symm.trans H; with_reducible exact H2_) | with_reducible exact H | (rw [hy325]; exact H) | exact H
            have Ny325 := Aside0.mk hy325
            clear hy325
            by_cases c5 : x3_2.size + (strOfNums y325).size ≤ 9223372036854775807
            · as_aux_lemma =>
              rw [if_pos c5] at H
              have c5b0 := eq_true c5
              have c5b1 : decide (x3_2.size + (strOfNums y325).size ≤ 9223372036854775807) = true := decide_eq_true c5
              try have c5b2 : (9223372036854775807 < x3_2.size + (strOfNums y325).size) = False := eq_false (Nat.not_lt.2 c5)
              have H' := Aside0.mk H
              clear H
              go_wp2_with (first | ((with_reducible refine gate_dst (N := 50) rfl ?_); (try (refine gate_guard (by rfl) ?_; dsimp only)); refine Kd.R_lit (Kd.int .u8) _ 5 ?hg (N := 50) ?hd (xs := ([(wrap64 (97 + (Int.tmod (wrap64 (x0_1 + x4_2)) 26))) % 256] : List Int)) (inner := [.int .u8 ((wrap64 (97 + (Int.tmod (wrap64 (x0_1 + x4_2)) 26))) % 256)]) (ok := fun _ => True) (okp := fun _ => True) ?hr ?hp (fun _ hk => hk) trivial (Below.refl _ _) (Nat.le_refl _) (by simp) ?_; (case hd => rfl); (case hg => rfl); (case hr => first | (go_simp; done) | (go_simp; rfl)); (case hp => exact (Reps.one (show Kd.M (Kd.int .u8) _ _ _ ((wrap64 (97 + (Int.tmod (wrap64 (x0_1 + x4_2)) 26))) % 256) [.int .u8 ((wrap64 (97 + (Int.tmod (wrap64 (x0_1 + x4_2)) 26))) % 256)] from rfl) (Reps.none _ _))); intro v326 w6 ho7 hb hg_ hnew_; clear hg_ hnew_; (first | rw [← Ny325.out] at ho7 | (simp only [Int.reduceToNat] at ho7; rw [← Ny325.out] at ho7)); have n0_ := Aside0.mk (Kd.R_lower ho7 (below_size (by repeat (first | (with_reducible first | exact HB.out | apply below_alloc | apply pw_below_drewN | apply below_drew1) | exact HB.out)))); have n1_ := Aside0.mk (below_step (by repeat (first | (with_reducible first | exact HB.out | apply below_alloc | apply pw_below_drewN | apply below_drew1) | exact HB.out)) hb); clear HB; have HO327 := n0_; have HB := n1_; clear n0_ n1_; clear hb ho7; have hcv8 := own_string (P := Tryd.prog) Tryd.underlying39 Tryd.underlying5 Tryd.underlying9 (Kd.own_of_R HO327.out)))
              go_roundg k2
              case measure => have := HJ1.out; have := HK2.out; omega
              case rel => exact ⟨(x3_2 ++ (strOfNums y325)), (wrap64 (x4_2 + 1)), (by first | rfl | (simp; done) | (simp [*]; done) | (simp; unfold wrap64; omega)), (by first | rfl | (simp; done) | (simp [*]; done) | (simp; unfold wrap64; omega)), H', ⟨by have := HJ1.out; have := HK2.out; omega⟩, ⟨by repeat (first | (with_reducible first | exact HB.out | apply below_alloc | apply pw_below_drewN | apply below_drew1) | exact HB.out)⟩⟩
            · as_aux_lemma =>
              rw [if_neg c5] at H
              exact absurd H (by simp)
          · as_aux_lemma =>
            rw [if_neg c4] at H
            have c4b0 : decide (x4_2 < 32) = false := decide_eq_false c4
            clear c4
            have H' := Aside0.mk H
            clear H
            go_wp2
            go_loopg [5, 6] k2 (fun kq v5 v6 w' => ∃ (x5_3 : ByteArray) (x6_3 : Int), v5 = .string x5_3 ∧ v6 = .int .i64 x6_3 ∧ Aside0 (refrainlaw5_TokenLimits.l1 kq x0_1 x3_2 x5_3 x6_3 = some r) ∧ Aside0 (kq ≤ k2) ∧ Aside0 (Below w.heap.size w w'))
            case atStart => exact ⟨((⟨#[]⟩ : ByteArray)), (0), (by first | rfl | (simp; done) | (simp [*]; done) | (simp; unfold wrap64; omega)), (by first | rfl | (simp; done) | (simp [*]; done) | (simp; unfold wrap64; omega)), H', ⟨Nat.le_refl _⟩, ⟨by repeat (first | (with_reducible first | exact HB.out | apply below_alloc | apply pw_below_drewN | apply below_drew1) | exact HB.out)⟩⟩
            case round =>
              clear H'
              try clear p2
              try clear c3
              try clear c3b0
              try clear c4
              try clear c4b0
              try clear c5
              try clear c5b0
              try clear c5b1
              try clear c5b2
              try clear p6
              try clear c8
              try clear hcv8
              try clear p2
              obtain ⟨x5_3, x6_3, rfl, rfl, HA, HK3, HB⟩ := hrel
              cases gk with
              | zero => (have HA2 := HA.out; clear HA; revert HA2; rw [refrainlaw5_TokenLimits.l1_zero]; intro h_; cases h_)
              | succ k3 =>
                have H := HA.out
                clear HA
                simp only [refrainlaw5_TokenLimits.l1] at H
                by_cases c9 : x6_3 < x0_1
                · as_aux_lemma =>
                  rw [if_pos c9] at H
                  have c9b0 : decide (x6_3 < x0_1) = true := decide_eq_true c9
                  clear c9
                  by_cases c10 : x5_3.size + 1 ≤ 9223372036854775807
                  · as_aux_lemma =>
                    rw [if_pos c10] at H
                    have c10b0 := eq_true c10
                    have c10b1 : decide (x5_3.size + 1 ≤ 9223372036854775807) = true := decide_eq_true c10
                    try have c10b2 : (9223372036854775807 < x5_3.size + 1) = False := eq_false (Nat.not_lt.2 c10)
                    have H' := Aside0.mk H
                    clear H
                    go_wp2
                    go_roundg k3
                    case measure => have := HJ1.out; have := HK2.out; have := HK3.out; omega
                    case rel => exact ⟨(x5_3 ++ (⟨#[32]⟩ : ByteArray)), (wrap64 (x6_3 + 1)), (by first | rfl | (simp; done) | (simp [*]; done) | (simp; unfold wrap64; omega)), (by first | rfl | (simp; done) | (simp [*]; done) | (simp; unfold wrap64; omega)), H', ⟨by have := HJ1.out; have := HK2.out; have := HK3.out; omega⟩, ⟨by repeat (first | (with_reducible first | exact HB.out | apply below_alloc | apply pw_below_drewN | apply below_drew1) | exact HB.out)⟩⟩
                  · as_aux_lemma =>
                    rw [if_neg c10] at H
                    exact absurd H (by simp)
                · as_aux_lemma =>
                  rw [if_neg c9] at H
                  have c9b0 : decide (x6_3 < x0_1) = false := decide_eq_false c9
                  clear c9
                  have H' := Aside0.mk H
                  clear H
                  go_wp2
                  go_loopg [7] k3 (fun kq v7 w' => ∃ (x7_4 : ByteArray), v7 = .string x7_4 ∧ Aside0 (refrainlaw5_TokenLimits.l2 kq x0_1 x3_2 x5_3 x7_4 = some r) ∧ Aside0 (kq ≤ k3) ∧ Aside0 (Below w.heap.size w w'))
                  case atStart => exact ⟨((⟨#[]⟩ : ByteArray)), (by first | rfl | (simp; done) | (simp [*]; done) | (simp; unfold wrap64; omega)), H', ⟨Nat.le_refl _⟩, ⟨by repeat (first | (with_reducible first | exact HB.out | apply below_alloc | apply pw_below_drewN | apply below_drew1) | exact HB.out)⟩⟩
                  case round =>
                    clear H'
                    try clear c1
                    try clear p2
                    try clear c3
                    try clear c3b0
                    try clear c4
                    try clear c4b0
                    try clear c5
                    try clear c5b0
                    try clear c5b1
                    try clear c5b2
                    try clear p6
                    try clear c8
                    try clear hcv8
                    try clear c9
                    try clear c9b0
                    try clear c10
                    try clear c10b0
                    try clear c10b1
                    try clear c10b2
                    try clear p2
                    try clear p6
                    obtain ⟨x7_4, rfl, HA, HK4, HB⟩ := hrel
                    cases gk with
                    | zero => (have HA2 := HA.out; clear HA; revert HA2; rw [refrainlaw5_TokenLimits.l2_zero]; intro h_; cases h_)
                    | succ k4 =>
                      have H := HA.out
                      clear HA
                      simp only [refrainlaw5_TokenLimits.l2] at H
                      by_cases c11 : (x7_4.size : Int) < 4096
                      · as_aux_lemma =>
                        rw [if_pos c11] at H
                        have c11b0 : decide ((x7_4.size : Int) < 4096) = true := decide_eq_true c11
                        have c11b1 : decide (x7_4.size < 4096) = true := decide_eq_true (by omega)
                        clear c11
                        by_cases c12 : x7_4.size + 1 ≤ 9223372036854775807
                        · as_aux_lemma =>
                          rw [if_pos c12] at H
                          have c12b0 := eq_true c12
                          have c12b1 : decide (x7_4.size + 1 ≤ 9223372036854775807) = true := decide_eq_true c12
                          try have c12b2 : (9223372036854775807 < x7_4.size + 1) = False := eq_false (Nat.not_lt.2 c12)
                          have H' := Aside0.mk H
                          clear H
                          go_wp2
                          go_roundg k4
                          case measure => have := HJ1.out; have := HK2.out; have := HK3.out; have := HK4.out; omega
                          case rel => exact ⟨(x7_4 ++ (⟨#[32]⟩ : ByteArray)), (by first | rfl | (simp; done) | (simp [*]; done) | (simp; unfold wrap64; omega)), H', ⟨by have := HJ1.out; have := HK2.out; have := HK3.out; have := HK4.out; omega⟩, ⟨by repeat (first | (with_reducible first | exact HB.out | apply below_alloc | apply pw_below_drewN | apply below_drew1) | exact HB.out)⟩⟩
                        · as_aux_lemma =>
                          rw [if_neg c12] at H
                          exact absurd H (by simp)
                      · as_aux_lemma =>
                        rw [if_neg c11] at H
                        have c11b0 : decide ((x7_4.size : Int) < 4096) = false := decide_eq_false c11
                        have c11b1 : decide (x7_4.size < 4096) = false := decide_eq_false (by omega)
                        clear c11
                        by_cases c13 : x5_3.size + x3_2.size ≤ 9223372036854775807
                        · as_aux_lemma =>
                          rw [if_pos c13] at H
                          have c13b0 := eq_true c13
                          have c13b1 : decide (x5_3.size + x3_2.size ≤ 9223372036854775807) = true := decide_eq_true c13
                          try have c13b2 : (9223372036854775807 < x5_3.size + x3_2.size) = False := eq_false (Nat.not_lt.2 c13)
                          replace H := Option.bind_eq_some_iff.mp H
                          obtain ⟨⟨t328, t329, t330⟩, A140, H⟩ := H
                          replace H : (if (x5_3 ++ x3_2).size + 1 ≤ 9223372036854775807 then ((token_Scan.f k4 ((x5_3 ++ x3_2) ++ (⟨#[57]⟩ : ByteArray))).bind fun bt333 => ((token_Scan.f k4 (⟨#[57, 50, 50, 51, 51, 55, 50, 48, 51, 54, 56, 53, 52, 55, 55, 53, 56, 48, 55]⟩ : ByteArray)).bind fun bt338 => ((token_Scan.f k4 (⟨#[57, 50, 50, 51, 51, 55, 50, 48, 51, 54, 56, 53, 52, 55, 55, 53, 56, 48, 56]⟩ : ByteArray)).bind fun bt343 => ((token_Scan.f k4 x7_4).bind fun bt348 => (if x7_4.size + 1 ≤ 9223372036854775807 then ((token_Scan.f k4 (x7_4 ++ (⟨#[32]⟩ : ByteArray))).bind fun bt353 => (if t330 = 0 then (if (t328.length : Int) = 2 then (if 0 < (t328.length : Int) then (if ((rd_T44 t328 0).f2) = x0_1 then (if bt333.2.2 = 51 then (if bt333.2.1 = x0_1 then (if bt338.2.2 = 0 then (if (bt338.1.length : Int) = 2 then (refrainlaw5_TokenLimits.j4 k4 x0_1 x5_3 x7_4 bt348.1 bt348.2.1 bt348.2.2 bt353.2.2 (bt343.2.2 != 51)) else (refrainlaw5_TokenLimits.j4 k4 x0_1 x5_3 x7_4 bt348.1 bt348.2.1 bt348.2.2 bt353.2.2 true)) else (refrainlaw5_TokenLimits.j4 k4 x0_1 x5_3 x7_4 bt348.1 bt348.2.1 bt348.2.2 bt353.2.2 true)) else (refrainlaw5_TokenLimits.j4 k4 x0_1 x5_3 x7_4 bt348.1 bt348.2.1 bt348.2.2 bt353.2.2 true)) else (refrainlaw5_TokenLimits.j4 k4 x0_1 x5_3 x7_4 bt348.1 bt348.2.1 bt348.2.2 bt353.2.2 true)) else (refrainlaw5_TokenLimits.j4 k4 x0_1 x5_3 x7_4 bt348.1 bt348.2.1 bt348.2.2 bt353.2.2 true)) else (none)) else (refrainlaw5_TokenLimits.j4 k4 x0_1 x5_3 x7_4 bt348.1 bt348.2.1 bt348.2.2 bt353.2.2 true)) else (refrainlaw5_TokenLimits.j4 k4 x0_1 x5_3 x7_4 bt348.1 bt348.2.1 bt348.2.2 bt353.2.2 true))) else (none)))))) else (none)) = some r := H
                          have A14 := Aside0.mk A140
                          clear A140
                          by_cases c15 : (x5_3 ++ x3_2).size + 1 ≤ 9223372036854775807
                          · as_aux_lemma =>
                            rw [if_pos c15] at H
                            have c15b0 := eq_true c15
                            try (have c15s0 := c15; simp only [ByteArray.size_append, ByteArray.size_extract, Nat.sub_zero, size_lit1, size_lit2, size_lit3, size_lit4] at c15s0; have c15s2 := eq_false (Nat.not_lt.2 c15s0); replace c15s0 := eq_true c15s0)
                            have c15b1 : decide ((x5_3 ++ x3_2).size + 1 ≤ 9223372036854775807) = true := decide_eq_true c15
                            try have c15b2 : (9223372036854775807 < (x5_3 ++ x3_2).size + 1) = False := eq_false (Nat.not_lt.2 c15)
                            replace H := Option.bind_eq_some_iff.mp H
                            obtain ⟨⟨t333, t334, t335⟩, A160, H⟩ := H
                            replace H : ((token_Scan.f k4 (⟨#[57, 50, 50, 51, 51, 55, 50, 48, 51, 54, 56, 53, 52, 55, 55, 53, 56, 48, 55]⟩ : ByteArray)).bind fun bt338 => ((token_Scan.f k4 (⟨#[57, 50, 50, 51, 51, 55, 50, 48, 51, 54, 56, 53, 52, 55, 55, 53, 56, 48, 56]⟩ : ByteArray)).bind fun bt343 => ((token_Scan.f k4 x7_4).bind fun bt348 => (if x7_4.size + 1 ≤ 9223372036854775807 then ((token_Scan.f k4 (x7_4 ++ (⟨#[32]⟩ : ByteArray))).bind fun bt353 => (if t330 = 0 then (if (t328.length : Int) = 2 then (if 0 < (t328.length : Int) then (if ((rd_T44 t328 0).f2) = x0_1 then (if t335 = 51 then (if t334 = x0_1 then (if bt338.2.2 = 0 then (if (bt338.1.length : Int) = 2 then (refrainlaw5_TokenLimits.j4 k4 x0_1 x5_3 x7_4 bt348.1 bt348.2.1 bt348.2.2 bt353.2.2 (bt343.2.2 != 51)) else (refrainlaw5_TokenLimits.j4 k4 x0_1 x5_3 x7_4 bt348.1 bt348.2.1 bt348.2.2 bt353.2.2 true)) else (refrainlaw5_TokenLimits.j4 k4 x0_1 x5_3 x7_4 bt348.1 bt348.2.1 bt348.2.2 bt353.2.2 true)) else (refrainlaw5_TokenLimits.j4 k4 x0_1 x5_3 x7_4 bt348.1 bt348.2.1 bt348.2.2 bt353.2.2 true)) else (refrainlaw5_TokenLimits.j4 k4 x0_1 x5_3 x7_4 bt348.1 bt348.2.1 bt348.2.2 bt353.2.2 true)) else (refrainlaw5_TokenLimits.j4 k4 x0_1 x5_3 x7_4 bt348.1 bt348.2.1 bt348.2.2 bt353.2.2 true)) else (none)) else (refrainlaw5_TokenLimits.j4 k4 x0_1 x5_3 x7_4 bt348.1 bt348.2.1 bt348.2.2 bt353.2.2 true)) else (refrainlaw5_TokenLimits.j4 k4 x0_1 x5_3 x7_4 bt348.1 bt348.2.1 bt348.2.2 bt353.2.2 true))) else (none))))) = some r := H
                            have A16 := Aside0.mk A160
                            clear A160
                            replace H := Option.bind_eq_some_iff.mp H
                            obtain ⟨⟨t338, t339, t340⟩, A170, H⟩ := H
                            replace H : ((token_Scan.f k4 (⟨#[57, 50, 50, 51, 51, 55, 50, 48, 51, 54, 56, 53, 52, 55, 55, 53, 56, 48, 56]⟩ : ByteArray)).bind fun bt343 => ((token_Scan.f k4 x7_4).bind fun bt348 => (if x7_4.size + 1 ≤ 9223372036854775807 then ((token_Scan.f k4 (x7_4 ++ (⟨#[32]⟩ : ByteArray))).bind fun bt353 => (if t330 = 0 then (if (t328.length : Int) = 2 then (if 0 < (t328.length : Int) then (if ((rd_T44 t328 0).f2) = x0_1 then (if t335 = 51 then (if t334 = x0_1 then (if t340 = 0 then (if (t338.length : Int) = 2 then (refrainlaw5_TokenLimits.j4 k4 x0_1 x5_3 x7_4 bt348.1 bt348.2.1 bt348.2.2 bt353.2.2 (bt343.2.2 != 51)) else (refrainlaw5_TokenLimits.j4 k4 x0_1 x5_3 x7_4 bt348.1 bt348.2.1 bt348.2.2 bt353.2.2 true)) else (refrainlaw5_TokenLimits.j4 k4 x0_1 x5_3 x7_4 bt348.1 bt348.2.1 bt348.2.2 bt353.2.2 true)) else (refrainlaw5_TokenLimits.j4 k4 x0_1 x5_3 x7_4 bt348.1 bt348.2.1 bt348.2.2 bt353.2.2 true)) else (refrainlaw5_TokenLimits.j4 k4 x0_1 x5_3 x7_4 bt348.1 bt348.2.1 bt348.2.2 bt353.2.2 true)) else (refrainlaw5_TokenLimits.j4 k4 x0_1 x5_3 x7_4 bt348.1 bt348.2.1 bt348.2.2 bt353.2.2 true)) else (none)) else (refrainlaw5_TokenLimits.j4 k4 x0_1 x5_3 x7_4 bt348.1 bt348.2.1 bt348.2.2 bt353.2.2 true)) else (refrainlaw5_TokenLimits.j4 k4 x0_1 x5_3 x7_4 bt348.1 bt348.2.1 bt348.2.2 bt353.2.2 true))) else (none)))) = some r := H
                            have A17 := Aside0.mk A170
                            clear A170
                            replace H := Option.bind_eq_some_iff.mp H
                            obtain ⟨⟨t343, t344, t345⟩, A180, H⟩ := H
                            replace H : ((token_Scan.f k4 x7_4).bind fun bt348 => (if x7_4.size + 1 ≤ 9223372036854775807 then ((token_Scan.f k4 (x7_4 ++ (⟨#[32]⟩ : ByteArray))).bind fun bt353 => (if t330 = 0 then (if (t328.length : Int) = 2 then (if 0 < (t328.length : Int) then (if ((rd_T44 t328 0).f2) = x0_1 then (if t335 = 51 then (if t334 = x0_1 then (if t340 = 0 then (if (t338.length : Int) = 2 then (refrainlaw5_TokenLimits.j4 k4 x0_1 x5_3 x7_4 bt348.1 bt348.2.1 bt348.2.2 bt353.2.2 (t345 != 51)) else (refrainlaw5_TokenLimits.j4 k4 x0_1 x5_3 x7_4 bt348.1 bt348.2.1 bt348.2.2 bt353.2.2 true)) else (refrainlaw5_TokenLimits.j4 k4 x0_1 x5_3 x7_4 bt348.1 bt348.2.1 bt348.2.2 bt353.2.2 true)) else (refrainlaw5_TokenLimits.j4 k4 x0_1 x5_3 x7_4 bt348.1 bt348.2.1 bt348.2.2 bt353.2.2 true)) else (refrainlaw5_TokenLimits.j4 k4 x0_1 x5_3 x7_4 bt348.1 bt348.2.1 bt348.2.2 bt353.2.2 true)) else (refrainlaw5_TokenLimits.j4 k4 x0_1 x5_3 x7_4 bt348.1 bt348.2.1 bt348.2.2 bt353.2.2 true)) else (none)) else (refrainlaw5_TokenLimits.j4 k4 x0_1 x5_3 x7_4 bt348.1 bt348.2.1 bt348.2.2 bt353.2.2 true)) else (refrainlaw5_TokenLimits.j4 k4 x0_1 x5_3 x7_4 bt348.1 bt348.2.1 bt348.2.2 bt353.2.2 true))) else (none))) = some r := H
                            have A18 := Aside0.mk A180
                            clear A180
                            replace H := Option.bind_eq_some_iff.mp H
                            obtain ⟨⟨t348, t349, t350⟩, A190, H⟩ := H
                            replace H : (if x7_4.size + 1 ≤ 9223372036854775807 then ((token_Scan.f k4 (x7_4 ++ (⟨#[32]⟩ : ByteArray))).bind fun bt353 => (if t330 = 0 then (if (t328.length : Int) = 2 then (if 0 < (t328.length : Int) then (if ((rd_T44 t328 0).f2) = x0_1 then (if t335 = 51 then (if t334 = x0_1 then (if t340 = 0 then (if (t338.length : Int) = 2 then (refrainlaw5_TokenLimits.j4 k4 x0_1 x5_3 x7_4 t348 t349 t350 bt353.2.2 (t345 != 51)) else (refrainlaw5_TokenLimits.j4 k4 x0_1 x5_3 x7_4 t348 t349 t350 bt353.2.2 true)) else (refrainlaw5_TokenLimits.j4 k4 x0_1 x5_3 x7_4 t348 t349 t350 bt353.2.2 true)) else (refrainlaw5_TokenLimits.j4 k4 x0_1 x5_3 x7_4 t348 t349 t350 bt353.2.2 true)) else (refrainlaw5_TokenLimits.j4 k4 x0_1 x5_3 x7_4 t348 t349 t350 bt353.2.2 true)) else (refrainlaw5_TokenLimits.j4 k4 x0_1 x5_3 x7_4 t348 t349 t350 bt353.2.2 true)) else (none)) else (refrainlaw5_TokenLimits.j4 k4 x0_1 x5_3 x7_4 t348 t349 t350 bt353.2.2 true)) else (refrainlaw5_TokenLimits.j4 k4 x0_1 x5_3 x7_4 t348 t349 t350 bt353.2.2 true))) else (none)) = some r := H
                            have A19 := Aside0.mk A190
                            clear A190
                            by_cases c20 : x7_4.size + 1 ≤ 9223372036854775807
                            · as_aux_lemma =>
                              rw [if_pos c20] at H
                              have c20b0 := eq_true c20
                              have c20b1 : decide (x7_4.size + 1 ≤ 9223372036854775807) = true := decide_eq_true c20
                              try have c20b2 : (9223372036854775807 < x7_4.size + 1) = False := eq_false (Nat.not_lt.2 c20)
                              replace H := Option.bind_eq_some_iff.mp H
                              obtain ⟨⟨t353, t354, t355⟩, A210, H⟩ := H
                              replace H : (if t330 = 0 then (if (t328.length : Int) = 2 then (if 0 < (t328.length : Int) then (if ((rd_T44 t328 0).f2) = x0_1 then (if t335 = 51 then (if t334 = x0_1 then (if t340 = 0 then (if (t338.length : Int) = 2 then (refrainlaw5_TokenLimits.j4 k4 x0_1 x5_3 x7_4 t348 t349 t350 t355 (t345 != 51)) else (refrainlaw5_TokenLimits.j4 k4 x0_1 x5_3 x7_4 t348 t349 t350 t355 true)) else (refrainlaw5_TokenLimits.j4 k4 x0_1 x5_3 x7_4 t348 t349 t350 t355 true)) else (refrainlaw5_TokenLimits.j4 k4 x0_1 x5_3 x7_4 t348 t349 t350 t355 true)) else (refrainlaw5_TokenLimits.j4 k4 x0_1 x5_3 x7_4 t348 t349 t350 t355 true)) else (refrainlaw5_TokenLimits.j4 k4 x0_1 x5_3 x7_4 t348 t349 t350 t355 true)) else (none)) else (refrainlaw5_TokenLimits.j4 k4 x0_1 x5_3 x7_4 t348 t349 t350 t355 true)) else (refrainlaw5_TokenLimits.j4 k4 x0_1 x5_3 x7_4 t348 t349 t350 t355 true)) = some r := H
                              have A21 := Aside0.mk A210
                              clear A210
                              have HC22 := Aside0.mk H
                              clear H
                              go_upto_region 23 with (first | ((with_reducible refine gate_callee (f := 21) rfl ?_); refine goesL_ (some 69) rfl rfl Tryd.func21 (by kernel_rfl) rfl #[.string (x5_3 ++ x3_2)] rfl (by (try simp only [List.map_toArray, List.map_cons, List.map_nil]); first | done | rfl | (simp only [List.length_drop, List.length_take]; rfl)) ?_; (with_reducible refine (token_Scan.calls k4 (x5_3 ++ x3_2) t328 t329 t330 _ ?side1 A14.out).mono ?_); (case side1 => first | exact HL_LErr | exact ⟨LErr.below HL_LErr.out (by repeat (first | (with_reducible first | exact HB.out | apply below_alloc | apply pw_below_drewN | apply below_drew1) | exact HB.out))⟩); rintro e w23 ⟨v331, rfl, ho0, hb⟩; refine ⟨_, rfl, ?_⟩; have n0_ := Aside0.mk (Kd.R_lower ho0 (below_size (by repeat (first | (with_reducible first | exact HB.out | apply below_alloc | apply pw_below_drewN | apply below_drew1) | exact HB.out)))); have n1_ := Aside0.mk (below_step (by repeat (first | (with_reducible first | exact HB.out | apply below_alloc | apply pw_below_drewN | apply below_drew1) | exact HB.out)) hb); clear HB; have HO332 := n0_; have HB := n1_; clear n0_ n1_; (try clear hb); (try clear hb2); (try clear hk); (try clear hi); (try clear ho0)) | ((with_reducible refine gate_callee (f := 21) rfl ?_); refine goesL_ (some 78) rfl rfl Tryd.func21 (by kernel_rfl) rfl #[.string ((x5_3 ++ x3_2) ++ (⟨#[57]⟩ : ByteArray))] rfl (by (try simp only [List.map_toArray, List.map_cons, List.map_nil]); first | done | rfl | (simp only [List.length_drop, List.length_take]; rfl)) ?_; (with_reducible refine (token_Scan.calls k4 ((x5_3 ++ x3_2) ++ (⟨#[57]⟩ : ByteArray)) t333 t334 t335 _ ?side1 A16.out).mono ?_); (case side1 => first | exact HL_LErr | exact ⟨LErr.below HL_LErr.out (by repeat (first | (with_reducible first | exact HB.out | apply below_alloc | apply pw_below_drewN | apply below_drew1) | exact HB.out))⟩); rintro e w24 ⟨v336, rfl, ho0, hb⟩; refine ⟨_, rfl, ?_⟩; have n0_ := Aside0.mk (Kd.R_elder' (by (with_reducible repeat (first | apply Kd.R_alloc | apply Kd.R_drewN | apply Kd.R_drew)); exact HO332.out) (Kd.R_base ho0) hb); have n1_ := Aside0.mk (Kd.R_lower (Kd.R_new' ho0 (Kd.R_lt (by (with_reducible repeat (first | apply Kd.R_alloc | apply Kd.R_drewN | apply Kd.R_drew)); exact HO332.out))) (below_size (by repeat (first | (with_reducible first | exact HB.out | apply below_alloc | apply pw_below_drewN | apply below_drew1) | exact HB.out)))); have n2_ := Aside0.mk (below_step (by repeat (first | (with_reducible first | exact HB.out | apply below_alloc | apply pw_below_drewN | apply below_drew1) | exact HB.out)) hb); clear HO332; clear HB; have HO332 := n0_; have HO337 := n1_; have HB := n2_; clear n0_ n1_ n2_; (try clear hb); (try clear hb2); (try clear hk); (try clear hi); (try clear ho0)) | ((with_reducible refine gate_callee (f := 21) rfl ?_); refine goesL_ (some 83) rfl rfl Tryd.func21 (by kernel_rfl) rfl #[.string (⟨#[57, 50, 50, 51, 51, 55, 50, 48, 51, 54, 56, 53, 52, 55, 55, 53, 56, 48, 55]⟩ : ByteArray)] rfl (by (try simp only [List.map_toArray, List.map_cons, List.map_nil]); first | done | rfl | (simp only [List.length_drop, List.length_take]; rfl)) ?_; (with_reducible refine (token_Scan.calls k4 (⟨#[57, 50, 50, 51, 51, 55, 50, 48, 51, 54, 56, 53, 52, 55, 55, 53, 56, 48, 55]⟩ : ByteArray) t338 t339 t340 _ ?side1 A17.out).mono ?_); (case side1 => first | exact HL_LErr | exact ⟨LErr.below HL_LErr.out (by repeat (first | (with_reducible first | exact HB.out | apply below_alloc | apply pw_below_drewN | apply below_drew1) | exact HB.out))⟩); rintro e w25 ⟨v341, rfl, ho0, hb⟩; refine ⟨_, rfl, ?_⟩; have n0_ := Aside0.mk (Kd.R_elder' (by (with_reducible repeat (first | apply Kd.R_alloc | apply Kd.R_drewN | apply Kd.R_drew)); exact HO332.out) (Kd.R_base ho0) hb); have n1_ := Aside0.mk (Kd.R_elder' (by (with_reducible repeat (first | apply Kd.R_alloc | apply Kd.R_drewN | apply Kd.R_drew)); exact HO337.out) (Kd.R_base ho0) hb); have n2_ := Aside0.mk (Kd.R_lower (Kd.R_new' (Kd.R_new' ho0 (Kd.R_lt (by (with_reducible repeat (first | apply Kd.R_alloc | apply Kd.R_drewN | apply Kd.R_drew)); exact HO332.out))) (Kd.R_lt (by (with_reducible repeat (first | apply Kd.R_alloc | apply Kd.R_drewN | apply Kd.R_drew)); exact HO337.out))) (below_size (by repeat (first | (with_reducible first | exact HB.out | apply below_alloc | apply pw_below_drewN | apply below_drew1) | exact HB.out)))); have n3_ := Aside0.mk (below_step (by repeat (first | (with_reducible first | exact HB.out | apply below_alloc | apply pw_below_drewN | apply below_drew1) | exact HB.out)) hb); clear HO332; clear HO337; clear HB; have HO332 := n0_; have HO337 := n1_; have HO342 := n2_; have HB := n3_; clear n0_ n1_ n2_ n3_; (try clear hb); (try clear hb2); (try clear hk); (try clear hi); (try clear ho0)) | ((with_reducible refine gate_callee (f := 21) rfl ?_); refine goesL_ (some 88) rfl rfl Tryd.func21 (by kernel_rfl) rfl #[.string (⟨#[57, 50, 50, 51, 51, 55, 50, 48, 51, 54, 56, 53, 52, 55, 55, 53, 56, 48, 56]⟩ : ByteArray)] rfl (by (try simp only [List.map_toArray, List.map_cons, List.map_nil]); first | done | rfl | (simp only [List.length_drop, List.length_take]; rfl)) ?_; (with_reducible refine (token_Scan.calls k4 (⟨#[57, 50, 50, 51, 51, 55, 50, 48, 51, 54, 56, 53, 52, 55, 55, 53, 56, 48, 56]⟩ : ByteArray) t343 t344 t345 _ ?side1 A18.out).mono ?_); (case side1 => first | exact HL_LErr | exact ⟨LErr.below HL_LErr.out (by repeat (first | (with_reducible first | exact HB.out | apply below_alloc | apply pw_below_drewN | apply below_drew1) | exact HB.out))⟩); rintro e w26 ⟨v346, rfl, ho0, hb⟩; refine ⟨_, rfl, ?_⟩; have n0_ := Aside0.mk (Kd.R_elder' (by (with_reducible repeat (first | apply Kd.R_alloc | apply Kd.R_drewN | apply Kd.R_drew)); exact HO332.out) (Kd.R_base ho0) hb); have n1_ := Aside0.mk (Kd.R_elder' (by (with_reducible repeat (first | apply Kd.R_alloc | apply Kd.R_drewN | apply Kd.R_drew)); exact HO337.out) (Kd.R_base ho0) hb); have n2_ := Aside0.mk (Kd.R_elder' (by (with_reducible repeat (first | apply Kd.R_alloc | apply Kd.R_drewN | apply Kd.R_drew)); exact HO342.out) (Kd.R_base ho0) hb); have n3_ := Aside0.mk (Kd.R_lower (Kd.R_new' (Kd.R_new' (Kd.R_new' ho0 (Kd.R_lt (by (with_reducible repeat (first | apply Kd.R_alloc | apply Kd.R_drewN | apply Kd.R_drew)); exact HO332.out))) (Kd.R_lt (by (with_reducible repeat (first | apply Kd.R_alloc | apply Kd.R_drewN | apply Kd.R_drew)); exact HO337.out))) (Kd.R_lt (by (with_reducible repeat (first | apply Kd.R_alloc | apply Kd.R_drewN | apply Kd.R_drew)); exact HO342.out))) (below_size (by repeat (first | (with_reducible first | exact HB.out | apply below_alloc | apply pw_below_drewN | apply below_drew1) | exact HB.out)))); have n4_ := Aside0.mk (below_step (by repeat (first | (with_reducible first | exact HB.out | apply below_alloc | apply pw_below_drewN | apply below_drew1) | exact HB.out)) hb); clear HO332; clear HO337; clear HO342; clear HB; have HO332 := n0_; have HO337 := n1_; have HO342 := n2_; have HO347 := n3_; have HB := n4_; clear n0_ n1_ n2_ n3_ n4_; (try clear hb); (try clear hb2); (try clear hk); (try clear hi); (try clear ho0)) | ((with_reducible refine gate_callee (f := 21) rfl ?_); refine goesL_ (some 94) rfl rfl Tryd.func21 (by kernel_rfl) rfl #[.string x7_4] rfl (by (try simp only [List.map_toArray, List.map_cons, List.map_nil]); first | done | rfl | (simp only [List.length_drop, List.length_take]; rfl)) ?_; (with_reducible refine (token_Scan.calls k4 x7_4 t348 t349 t350 _ ?side1 A19.out).mono ?_); (case side1 => first | exact HL_LErr | exact ⟨LErr.below HL_LErr.out (by repeat (first | (with_reducible first | exact HB.out | apply below_alloc | apply pw_below_drewN | apply below_drew1) | exact HB.out))⟩); rintro e w27 ⟨v351, rfl, ho0, hb⟩; refine ⟨_, rfl, ?_⟩; have n0_ := Aside0.mk (Kd.R_elder' (by (with_reducible repeat (first | apply Kd.R_alloc | apply Kd.R_drewN | apply Kd.R_drew)); exact HO332.out) (Kd.R_base ho0) hb); have n1_ := Aside0.mk (Kd.R_elder' (by (with_reducible repeat (first | apply Kd.R_alloc | apply Kd.R_drewN | apply Kd.R_drew)); exact HO337.out) (Kd.R_base ho0) hb); have n2_ := Aside0.mk (Kd.R_elder' (by (with_reducible repeat (first | apply Kd.R_alloc | apply Kd.R_drewN | apply Kd.R_drew)); exact HO342.out) (Kd.R_base ho0) hb); have n3_ := Aside0.mk (Kd.R_elder' (by (with_reducible repeat (first | apply Kd.R_alloc | apply Kd.R_drewN | apply Kd.R_drew)); exact HO347.out) (Kd.R_base ho0) hb); have n4_ := Aside0.mk (Kd.R_lower (Kd.R_new' (Kd.R_new' (Kd.R_new' (Kd.R_new' ho0 (Kd.R_lt (by (with_reducible repeat (first | apply Kd.R_alloc | apply Kd.R_drewN | apply Kd.R_drew)); exact HO332.out))) (Kd.R_lt (by (with_reducible repeat (first | apply Kd.R_alloc | apply Kd.R_drewN | apply Kd.R_drew)); exact HO337.out))) (Kd.R_lt (by (with_reducible repeat (first | apply Kd.R_alloc | apply Kd.R_drewN | apply Kd.R_drew)); exact HO342.out))) (Kd.R_lt (by (with_reducible repeat (first | apply Kd.R_alloc | apply Kd.R_drewN | apply Kd.R_drew)); exact HO347.out))) (below_size (by repeat (first | (with_reducible first | exact HB.out | apply below_alloc | apply pw_below_drewN | apply below_drew1) | exact HB.out)))); have n5_ := Aside0.mk (below_step (by repeat (first | (with_reducible first | exact HB.out | apply below_alloc | apply pw_below_drewN | apply below_drew1) | exact HB.out)) hb); clear HO332; clear HO337; clear HO342; clear HO347; clear HB; have HO332 := n0_; have HO337 := n1_; have HO342 := n2_; have HO347 := n3_; have HO352 := n4_; have HB := n5_; clear n0_ n1_ n2_ n3_ n4_ n5_; (try clear hb); (try clear hb2); (try clear hk); (try clear hi); (try clear ho0)) | ((with_reducible refine gate_callee (f := 21) rfl ?_); refine goesL_ (some 101) rfl rfl Tryd.func21 (by kernel_rfl) rfl #[.string (x7_4 ++ (⟨#[32]⟩ : ByteArray))] rfl (by (try simp only [List.map_toArray, List.map_cons, List.map_nil]); first | done | rfl | (simp only [List.length_drop, List.length_take]; rfl)) ?_; (with_reducible refine (token_Scan.calls k4 (x7_4 ++ (⟨#[32]⟩ : ByteArray)) t353 t354 t355 _ ?side1 A21.out).mono ?_); (case side1 => first | exact HL_LErr | exact ⟨LErr.below HL_LErr.out (by repeat (first | (with_reducible first | exact HB.out | apply below_alloc | apply pw_below_drewN | apply below_drew1) | exact HB.out))⟩); rintro e w28 ⟨v356, rfl, ho0, hb⟩; refine ⟨_, rfl, ?_⟩; have n0_ := Aside0.mk (Kd.R_elder' (by (with_reducible repeat (first | apply Kd.R_alloc | apply Kd.R_drewN | apply Kd.R_drew)); exact HO332.out) (Kd.R_base ho0) hb); have n1_ := Aside0.mk (Kd.R_elder' (by (with_reducible repeat (first | apply Kd.R_alloc | apply Kd.R_drewN | apply Kd.R_drew)); exact HO337.out) (Kd.R_base ho0) hb); have n2_ := Aside0.mk (Kd.R_elder' (by (with_reducible repeat (first | apply Kd.R_alloc | apply Kd.R_drewN | apply Kd.R_drew)); exact HO342.out) (Kd.R_base ho0) hb); have n3_ := Aside0.mk (Kd.R_elder' (by (with_reducible repeat (first | apply Kd.R_alloc | apply Kd.R_drewN | apply Kd.R_drew)); exact HO347.out) (Kd.R_base ho0) hb); have n4_ := Aside0.mk (Kd.R_elder' (by (with_reducible repeat (first | apply Kd.R_alloc | apply Kd.R_drewN | apply Kd.R_drew)); exact HO352.out) (Kd.R_base ho0) hb); have n5_ := Aside0.mk (Kd.R_lower (Kd.R_new' (Kd.R_new' (Kd.R_new' (Kd.R_new' (Kd.R_new' ho0 (Kd.R_lt (by (with_reducible repeat (first | apply Kd.R_alloc | apply Kd.R_drewN | apply Kd.R_drew)); exact HO332.out))) (Kd.R_lt (by (with_reducible repeat (first | apply Kd.R_alloc | apply Kd.R_drewN | apply Kd.R_drew)); exact HO337.out))) (Kd.R_lt (by (with_reducible repeat (first | apply Kd.R_alloc | apply Kd.R_drewN | apply Kd.R_drew)); exact HO342.out))) (Kd.R_lt (by (with_reducible repeat (first | apply Kd.R_alloc | apply Kd.R_drewN | apply Kd.R_drew)); exact HO347.out))) (Kd.R_lt (by (with_reducible repeat (first | apply Kd.R_alloc | apply Kd.R_drewN | apply Kd.R_drew)); exact HO352.out))) (below_size (by repeat (first | (with_reducible first | exact HB.out | apply below_alloc | apply pw_below_drewN | apply below_drew1) | exact HB.out)))); have n6_ := Aside0.mk (below_step (by repeat (first | (with_reducible first | exact HB.out | apply below_alloc | apply pw_below_drewN | apply below_drew1) | exact HB.out)) hb); clear HO332; clear HO337; clear HO342; clear HO347; clear HO352; clear HB; have HO332 := n0_; have HO337 := n1_; have HO342 := n2_; have HO347 := n3_; have HO352 := n4_; have HO357 := n5_; have HB := n6_; clear n0_ n1_ n2_ n3_ n4_ n5_ n6_; (try clear hb); (try clear hb2); (try clear hk); (try clear hi); (try clear ho0)))
                              (try simp only [Act.put, List.setIfInBounds_toArray, List.set_cons_zero, List.set_cons_succ])
                              go_cut [141] (fun v141 wc => ∃ (kq : Nat) (x141_21 : Bool), v141 = .bool x141_21 ∧ Aside0 (refrainlaw5_TokenLimits.j4 kq x0_1 x5_3 x7_4 t348 t349 t350 t355 x141_21 = some r) ∧ Aside0 (kq ≤ k4) ∧ Aside0 (Kd.R k44 44 wc w.heap.size (fun _ => True) v351 t348) ∧ Aside0 (Below w.heap.size w wc))
                              case first =>
                                have H := HC22.out
                                clear HC22
                                by_cases c29 : t330 = 0
                                · as_aux_lemma =>
                                  rw [if_pos c29] at H
                                  have c29b0 : (t330 == 0) = true := beq_iff_eq.mpr c29
                                  have c29b1 : (t330 != 0) = false := bne_eq_false_iff_eq.mpr c29
                                  clear c29
                                  (first | rw [c29b0] | (simp only [i64_w, i32_w, IntKind.wrap_u8, IntKind.wrap_u16, IntKind.wrap_u32]; rw [c29b0]) | skip)
                                  by_cases c30 : (t328.length : Int) = 2
                                  · as_aux_lemma =>
                                    rw [if_pos c30] at H
                                    have c30b0 : ((t328.length : Int) == 2) = true := beq_iff_eq.mpr c30
                                    have c30b1 : ((t328.length : Int) != 2) = false := bne_eq_false_iff_eq.mpr c30
                                    clear c30
                                    by_cases c31 : 0 < (t328.length : Int)
                                    · as_aux_lemma =>
                                      rw [if_pos c31] at H
                                      have c31b0 : decide (0 < (t328.length : Int)) = true := decide_eq_true c31
                                      have c31b1 : decide (0 < t328.length) = true := decide_eq_true (by omega)
                                      clear c31
                                      by_cases c32 : ((rd_T44 t328 0).f2) = x0_1
                                      · as_aux_lemma =>
                                        rw [if_pos c32] at H
                                        have c32b0 : (((rd_T44 t328 0).f2) == x0_1) = true := beq_iff_eq.mpr c32
                                        have c32b1 : (((rd_T44 t328 0).f2) != x0_1) = false := bne_eq_false_iff_eq.mpr c32
                                        clear c32
                                        by_cases c33 : t335 = 51
                                        · as_aux_lemma =>
                                          rw [if_pos c33] at H
                                          have c33b0 : (t335 == 51) = true := beq_iff_eq.mpr c33
                                          have c33b1 : (t335 != 51) = false := bne_eq_false_iff_eq.mpr c33
                                          clear c33
                                          by_cases c34 : t334 = x0_1
                                          · as_aux_lemma =>
                                            rw [if_pos c34] at H
                                            have c34b0 : (t334 == x0_1) = true := beq_iff_eq.mpr c34
                                            have c34b1 : (t334 != x0_1) = false := bne_eq_false_iff_eq.mpr c34
                                            clear c34
                                            by_cases c35 : t340 = 0
                                            · as_aux_lemma =>
                                              rw [if_pos c35] at H
                                              have c35b0 : (t340 == 0) = true := beq_iff_eq.mpr c35
                                              have c35b1 : (t340 != 0) = false := bne_eq_false_iff_eq.mpr c35
                                              clear c35
                                              by_cases c36 : (t338.length : Int) = 2
                                              · as_aux_lemma =>
                                                rw [if_pos c36] at H
                                                have c36b0 : ((t338.length : Int) == 2) = true := beq_iff_eq.mpr c36
                                                have c36b1 : ((t338.length : Int) != 2) = false := bne_eq_false_iff_eq.mpr c36
                                                clear c36
                                                have H' := Aside0.mk H
                                                clear H
                                                obtain ⟨Ao37, co37, eo37⟩ := Kd.R_slice HO332.out
                                                subst eo37
                                                have p358 : 0 ≤ (0 : Int) := (by omega)
                                                have q358 : 0 < (t328.length : Int) := of_decide_eq_true (by first | (with_reducible assumption) | assumption)
                                                obtain ⟨ad358, e358, hx358_0, hx358_1, hx358_2⟩ := at_T44 (Kd.R_reads' HO332.out).2.2 0 p358 q358
                                                cases e358
                                                have qi358 : (0 < t328.length) = True := eq_true (by omega)
                                                (try rw [show ((0 : Int)).toNat = 0 from rfl] at hx358_0)
                                                (try rw [show 0 * 3 = 0 from rfl] at hx358_0)
                                                (try rw [Addr.add_zero'] at hx358_0)
                                                (try rw [show ((0 : Int)).toNat = 0 from rfl] at hx358_1)
                                                (try rw [show 0 * 3 = 0 from rfl] at hx358_1)
                                                (try rw [Addr.add_zero'] at hx358_1)
                                                (try rw [show ((0 : Int)).toNat = 0 from rfl] at hx358_2)
                                                (try rw [show 0 * 3 = 0 from rfl] at hx358_2)
                                                (try rw [Addr.add_zero'] at hx358_2)
                                                replace p358 := eq_true p358
                                                replace q358 := eq_true q358
                                                obtain ⟨Ao38, co38, eo38⟩ := Kd.R_slice HO342.out
                                                subst eo38
                                                go_wp2
                                                go_meet
                                                case rel => exact ⟨_, ((t345 != 51)), (by first | rfl | (simp; done) | (simp [*]; done) | (simp; unfold wrap64; omega)), H', ⟨by have := HJ1.out; have := HK2.out; have := HK3.out; have := HK4.out; first | omega | exact Nat.le_refl _⟩, ⟨by (with_reducible repeat (first | apply Kd.R_alloc | apply Kd.R_drewN | apply Kd.R_drew)); exact Kd.R_mono HO352.out (fun _ hk => trivial)⟩, ⟨by repeat (first | (with_reducible first | exact HB.out | apply below_alloc | apply pw_below_drewN | apply below_drew1) | exact HB.out)⟩⟩
                                              · as_aux_lemma =>
                                                rw [if_neg c36] at H
                                                have c36b0 : ((t338.length : Int) == 2) = false := beq_eq_false_iff_ne.mpr c36
                                                have c36b1 : ((t338.length : Int) != 2) = true := bne_iff_ne.mpr c36
                                                have H' := Aside0.mk H
                                                clear H
                                                obtain ⟨Ao39, co39, eo39⟩ := Kd.R_slice HO332.out
                                                subst eo39
                                                have p358 : 0 ≤ (0 : Int) := (by omega)
                                                have q358 : 0 < (t328.length : Int) := of_decide_eq_true (by first | (with_reducible assumption) | assumption)
                                                obtain ⟨ad358, e358, hx358_0, hx358_1, hx358_2⟩ := at_T44 (Kd.R_reads' HO332.out).2.2 0 p358 q358
                                                cases e358
                                                have qi358 : (0 < t328.length) = True := eq_true (by omega)
                                                (try rw [show ((0 : Int)).toNat = 0 from rfl] at hx358_0)
                                                (try rw [show 0 * 3 = 0 from rfl] at hx358_0)
                                                (try rw [Addr.add_zero'] at hx358_0)
                                                (try rw [show ((0 : Int)).toNat = 0 from rfl] at hx358_1)
                                                (try rw [show 0 * 3 = 0 from rfl] at hx358_1)
                                                (try rw [Addr.add_zero'] at hx358_1)
                                                (try rw [show ((0 : Int)).toNat = 0 from rfl] at hx358_2)
                                                (try rw [show 0 * 3 = 0 from rfl] at hx358_2)
                                                (try rw [Addr.add_zero'] at hx358_2)
                                                replace p358 := eq_true p358
                                                replace q358 := eq_true q358
                                                obtain ⟨Ao40, co40, eo40⟩ := Kd.R_slice HO342.out
                                                subst eo40
                                                go_wp2
                                                go_meet
                                                case rel => exact ⟨_, (true), (by first | rfl | (simp; done) | (simp [*]; done) | (simp; unfold wrap64; omega)), H', ⟨by have := HJ1.out; have := HK2.out; have := HK3.out; have := HK4.out; first | omega | exact Nat.le_refl _⟩, ⟨by (with_reducible repeat (first | apply Kd.R_alloc | apply Kd.R_drewN | apply Kd.R_drew)); exact Kd.R_mono HO352.out (fun _ hk => trivial)⟩, ⟨by repeat (first | (with_reducible first | exact HB.out | apply below_alloc | apply pw_below_drewN | apply below_drew1) | exact HB.out)⟩⟩
                                            · as_aux_lemma =>
                                              rw [if_neg c35] at H
                                              have c35b0 : (t340 == 0) = false := beq_eq_false_iff_ne.mpr c35
                                              have c35b1 : (t340 != 0) = true := bne_iff_ne.mpr c35
                                              have H' := Aside0.mk H
                                              clear H
                                              obtain ⟨Ao41, co41, eo41⟩ := Kd.R_slice HO332.out
                                              subst eo41
                                              have p358 : 0 ≤ (0 : Int) := (by omega)
                                              have q358 : 0 < (t328.length : Int) := of_decide_eq_true (by first | (with_reducible assumption) | assumption)
                                              obtain ⟨ad358, e358, hx358_0, hx358_1, hx358_2⟩ := at_T44 (Kd.R_reads' HO332.out).2.2 0 p358 q358
                                              cases e358
                                              have qi358 : (0 < t328.length) = True := eq_true (by omega)
                                              (try rw [show ((0 : Int)).toNat = 0 from rfl] at hx358_0)
                                              (try rw [show 0 * 3 = 0 from rfl] at hx358_0)
                                              (try rw [Addr.add_zero'] at hx358_0)
                                              (try rw [show ((0 : Int)).toNat = 0 from rfl] at hx358_1)
                                              (try rw [show 0 * 3 = 0 from rfl] at hx358_1)
                                              (try rw [Addr.add_zero'] at hx358_1)
                                              (try rw [show ((0 : Int)).toNat = 0 from rfl] at hx358_2)
                                              (try rw [show 0 * 3 = 0 from rfl] at hx358_2)
                                              (try rw [Addr.add_zero'] at hx358_2)
                                              replace p358 := eq_true p358
                                              replace q358 := eq_true q358
                                              go_wp2
                                              go_meet
                                              case rel => exact ⟨_, (true), (by first | rfl | (simp; done) | (simp [*]; done) | (simp; unfold wrap64; omega)), H', ⟨by have := HJ1.out; have := HK2.out; have := HK3.out; have := HK4.out; first | omega | exact Nat.le_refl _⟩, ⟨by (with_reducible repeat (first | apply Kd.R_alloc | apply Kd.R_drewN | apply Kd.R_drew)); exact Kd.R_mono HO352.out (fun _ hk => trivial)⟩, ⟨by repeat (first | (with_reducible first | exact HB.out | apply below_alloc | apply pw_below_drewN | apply below_drew1) | exact HB.out)⟩⟩
                                          · as_aux_lemma =>
                                            rw [if_neg c34] at H
                                            have c34b0 : (t334 == x0_1) = false := beq_eq_false_iff_ne.mpr c34
                                            have c34b1 : (t334 != x0_1) = true := bne_iff_ne.mpr c34
                                            have H' := Aside0.mk H
                                            clear H
                                            obtain ⟨Ao42, co42, eo42⟩ := Kd.R_slice HO332.out
                                            subst eo42
                                            have p358 : 0 ≤ (0 : Int) := (by omega)
                                            have q358 : 0 < (t328.length : Int) := of_decide_eq_true (by first | (with_reducible assumption) | assumption)
                                            obtain ⟨ad358, e358, hx358_0, hx358_1, hx358_2⟩ := at_T44 (Kd.R_reads' HO332.out).2.2 0 p358 q358
                                            cases e358
                                            have qi358 : (0 < t328.length) = True := eq_true (by omega)
                                            (try rw [show ((0 : Int)).toNat = 0 from rfl] at hx358_0)
                                            (try rw [show 0 * 3 = 0 from rfl] at hx358_0)
                                            (try rw [Addr.add_zero'] at hx358_0)
                                            (try rw [show ((0 : Int)).toNat = 0 from rfl] at hx358_1)
                                            (try rw [show 0 * 3 = 0 from rfl] at hx358_1)
                                            (try rw [Addr.add_zero'] at hx358_1)
                                            (try rw [show ((0 : Int)).toNat = 0 from rfl] at hx358_2)
                                            (try rw [show 0 * 3 = 0 from rfl] at hx358_2)
                                            (try rw [Addr.add_zero'] at hx358_2)
                                            replace p358 := eq_true p358
                                            replace q358 := eq_true q358
                                            go_wp2
                                            go_meet
                                            case rel => exact ⟨_, (true), (by first | rfl | (simp; done) | (simp [*]; done) | (simp; unfold wrap64; omega)), H', ⟨by have := HJ1.out; have := HK2.out; have := HK3.out; have := HK4.out; first | omega | exact Nat.le_refl _⟩, ⟨by (with_reducible repeat (first | apply Kd.R_alloc | apply Kd.R_drewN | apply Kd.R_drew)); exact Kd.R_mono HO352.out (fun _ hk => trivial)⟩, ⟨by repeat (first | (with_reducible first | exact HB.out | apply below_alloc | apply pw_below_drewN | apply below_drew1) | exact HB.out)⟩⟩
                                        · as_aux_lemma =>
                                          rw [if_neg c33] at H
                                          have c33b0 : (t335 == 51) = false := beq_eq_false_iff_ne.mpr c33
                                          have c33b1 : (t335 != 51) = true := bne_iff_ne.mpr c33
                                          have H' := Aside0.mk H
                                          clear H
                                          obtain ⟨Ao43, co43, eo43⟩ := Kd.R_slice HO332.out
                                          subst eo43
                                          have p358 : 0 ≤ (0 : Int) := (by omega)
                                          have q358 : 0 < (t328.length : Int) := of_decide_eq_true (by first | (with_reducible assumption) | assumption)
                                          obtain ⟨ad358, e358, hx358_0, hx358_1, hx358_2⟩ := at_T44 (Kd.R_reads' HO332.out).2.2 0 p358 q358
                                          cases e358
                                          have qi358 : (0 < t328.length) = True := eq_true (by omega)
                                          (try rw [show ((0 : Int)).toNat = 0 from rfl] at hx358_0)
                                          (try rw [show 0 * 3 = 0 from rfl] at hx358_0)
                                          (try rw [Addr.add_zero'] at hx358_0)
                                          (try rw [show ((0 : Int)).toNat = 0 from rfl] at hx358_1)
                                          (try rw [show 0 * 3 = 0 from rfl] at hx358_1)
                                          (try rw [Addr.add_zero'] at hx358_1)
                                          (try rw [show ((0 : Int)).toNat = 0 from rfl] at hx358_2)
                                          (try rw [show 0 * 3 = 0 from rfl] at hx358_2)
                                          (try rw [Addr.add_zero'] at hx358_2)
                                          replace p358 := eq_true p358
                                          replace q358 := eq_true q358
                                          go_wp2
                                          go_meet
                                          case rel => exact ⟨_, (true), (by first | rfl | (simp; done) | (simp [*]; done) | (simp; unfold wrap64; omega)), H', ⟨by have := HJ1.out; have := HK2.out; have := HK3.out; have := HK4.out; first | omega | exact Nat.le_refl _⟩, ⟨by (with_reducible repeat (first | apply Kd.R_alloc | apply Kd.R_drewN | apply Kd.R_drew)); exact Kd.R_mono HO352.out (fun _ hk => trivial)⟩, ⟨by repeat (first | (with_reducible first | exact HB.out | apply below_alloc | apply pw_below_drewN | apply below_drew1) | exact HB.out)⟩⟩
                                      · as_aux_lemma =>
                                        rw [if_neg c32] at H
                                        have c32b0 : (((rd_T44 t328 0).f2) == x0_1) = false := beq_eq_false_iff_ne.mpr c32
                                        have c32b1 : (((rd_T44 t328 0).f2) != x0_1) = true := bne_iff_ne.mpr c32
                                        have H' := Aside0.mk H
                                        clear H
                                        obtain ⟨Ao44, co44, eo44⟩ := Kd.R_slice HO332.out
                                        subst eo44
                                        have p358 : 0 ≤ (0 : Int) := (by omega)
                                        have q358 : 0 < (t328.length : Int) := of_decide_eq_true (by first | (with_reducible assumption) | assumption)
                                        obtain ⟨ad358, e358, hx358_0, hx358_1, hx358_2⟩ := at_T44 (Kd.R_reads' HO332.out).2.2 0 p358 q358
                                        cases e358
                                        have qi358 : (0 < t328.length) = True := eq_true (by omega)
                                        (try rw [show ((0 : Int)).toNat = 0 from rfl] at hx358_0)
                                        (try rw [show 0 * 3 = 0 from rfl] at hx358_0)
                                        (try rw [Addr.add_zero'] at hx358_0)
                                        (try rw [show ((0 : Int)).toNat = 0 from rfl] at hx358_1)
                                        (try rw [show 0 * 3 = 0 from rfl] at hx358_1)
                                        (try rw [Addr.add_zero'] at hx358_1)
                                        (try rw [show ((0 : Int)).toNat = 0 from rfl] at hx358_2)
                                        (try rw [show 0 * 3 = 0 from rfl] at hx358_2)
                                        (try rw [Addr.add_zero'] at hx358_2)
                                        replace p358 := eq_true p358
                                        replace q358 := eq_true q358
                                        go_wp2
                                        go_meet
                                        case rel => exact ⟨_, (true), (by first | rfl | (simp; done) | (simp [*]; done) | (simp; unfold wrap64; omega)), H', ⟨by have := HJ1.out; have := HK2.out; have := HK3.out; have := HK4.out; first | omega | exact Nat.le_refl _⟩, ⟨by (with_reducible repeat (first | apply Kd.R_alloc | apply Kd.R_drewN | apply Kd.R_drew)); exact Kd.R_mono HO352.out (fun _ hk => trivial)⟩, ⟨by repeat (first | (with_reducible first | exact HB.out | apply below_alloc | apply pw_below_drewN | apply below_drew1) | exact HB.out)⟩⟩
                                    · as_aux_lemma =>
                                      rw [if_neg c31] at H
                                      exact absurd H (by simp)
                                  · as_aux_lemma =>
                                    rw [if_neg c30] at H
                                    have c30b0 : ((t328.length : Int) == 2) = false := beq_eq_false_iff_ne.mpr c30
                                    have c30b1 : ((t328.length : Int) != 2) = true := bne_iff_ne.mpr c30
                                    have H' := Aside0.mk H
                                    clear H
                                    obtain ⟨Ao45, co45, eo45⟩ := Kd.R_slice HO332.out
                                    subst eo45
                                    go_wp2
                                    go_meet
                                    case rel => exact ⟨_, (true), (by first | rfl | (simp; done) | (simp [*]; done) | (simp; unfold wrap64; omega)), H', ⟨by have := HJ1.out; have := HK2.out; have := HK3.out; have := HK4.out; first | omega | exact Nat.le_refl _⟩, ⟨by (with_reducible repeat (first | apply Kd.R_alloc | apply Kd.R_drewN | apply Kd.R_drew)); exact Kd.R_mono HO352.out (fun _ hk => trivial)⟩, ⟨by repeat (first | (with_reducible first | exact HB.out | apply below_alloc | apply pw_below_drewN | apply below_drew1) | exact HB.out)⟩⟩
                                · as_aux_lemma =>
                                  rw [if_neg c29] at H
                                  have c29b0 : (t330 == 0) = false := beq_eq_false_iff_ne.mpr c29
                                  have c29b1 : (t330 != 0) = true := bne_iff_ne.mpr c29
                                  (first | rw [c29b0] | (simp only [i64_w, i32_w, IntKind.wrap_u8, IntKind.wrap_u16, IntKind.wrap_u32]; rw [c29b0]) | skip)
                                  have H' := Aside0.mk H
                                  clear H
                                  go_wp2
                                  go_meet
                                  case rel => exact ⟨_, (true), (by first | rfl | (simp; done) | (simp [*]; done) | (simp; unfold wrap64; omega)), H', ⟨by have := HJ1.out; have := HK2.out; have := HK3.out; have := HK4.out; first | omega | exact Nat.le_refl _⟩, ⟨by (with_reducible repeat (first | apply Kd.R_alloc | apply Kd.R_drewN | apply Kd.R_drew)); exact Kd.R_mono HO352.out (fun _ hk => trivial)⟩, ⟨by repeat (first | (with_reducible first | exact HB.out | apply below_alloc | apply pw_below_drewN | apply below_drew1) | exact HB.out)⟩⟩
                              case rest =>
                                clear HC22
                                try clear c1
                                try clear c2
                                try clear p2
                                try clear c3
                                try clear c3b0
                                try clear p3
                                try clear q3
                                try clear hx3
                                try clear qi3
                                try clear c4
                                try clear c4b0
                                try clear c5
                                try clear c5b0
                                try clear c5b1
                                try clear c5b2
                                try clear p6
                                try clear c8
                                try clear hcv8
                                try clear c9
                                try clear c9b0
                                try clear c10
                                try clear c10b0
                                try clear c10b1
                                try clear c10b2
                                try clear c11
                                try clear c11b0
                                try clear c11b1
                                try clear c12
                                try clear c12b0
                                try clear c12b1
                                try clear c12b2
                                try clear c13
                                try clear c13b0
                                try clear c13b1
                                try clear c13b2
                                try clear c15
                                try clear c15b0
                                try clear c15b1
                                try clear c15b2
                                try clear c20
                                try clear c20b0
                                try clear c20b1
                                try clear c20b2
                                try clear c21
                                try clear c29
                                try clear c29b0
                                try clear c29b1
                                try clear c30
                                try clear c30b0
                                try clear c30b1
                                try clear c31
                                try clear c31b0
                                try clear c31b1
                                try clear c32
                                try clear c32b0
                                try clear c32b1
                                try clear c33
                                try clear c33b0
                                try clear c33b1
                                try clear c34
                                try clear c34b0
                                try clear c34b1
                                try clear c35
                                try clear c35b0
                                try clear c35b1
                                try clear p35
                                try clear q35
                                try clear hx35
                                try clear qi35
                                try clear c36
                                try clear c36b0
                                try clear c36b1
                                try clear hx358_0
                                try clear hx358_1
                                try clear hx358_2
                                try clear p2
                                try clear p358
                                try clear p6
                                try clear q358
                                obtain ⟨kq, x141_21, rfl, HA, HJ21, HO_20, HB⟩ := hcut
                                cases kq with
                                | zero => (have HA2 := HA.out; clear HA; revert HA2; rw [refrainlaw5_TokenLimits.j4_zero]; intro h_; cases h_)
                                | succ kj21 =>
                                  have H := HA.out
                                  clear HA
                                  simp only [refrainlaw5_TokenLimits.j4] at H
                                  by_cases c46 : x141_21 = true
                                  · subst c46
                                    have H1 : (some false) = some r := by rw [if_pos rfl] at H; exact H
                                    clear H
                                    have H := H1
                                    clear H1
                                    obtain rfl := Option.some.inj H
                                    go_wp2
                                    go_ret
                                    exact ⟨by first | rfl | (simp [errW_none, errW_some] <;> rfl) | (simp [*, errW_none, errW_some] <;> rfl), by repeat (first | (with_reducible first | exact HB.out | apply below_alloc | apply pw_below_drewN | apply below_drew1) | exact HB.out)⟩
                                  · replace c46 := Bool.eq_false_iff.mpr c46
                                    subst c46
                                    have H1 : (if t350 = 0 then (if t349 = 0 then (if (t348.length : Int) = 1 then (if 0 < (t348.length : Int) then (if ((rd_T44 t348 0).f2) = 4096 then (refrainlaw5_TokenLimits.j5 kj21 x0_1 x5_3 x7_4 (t355 != 2)) else (refrainlaw5_TokenLimits.j5 kj21 x0_1 x5_3 x7_4 true)) else (none)) else (refrainlaw5_TokenLimits.j5 kj21 x0_1 x5_3 x7_4 true)) else (refrainlaw5_TokenLimits.j5 kj21 x0_1 x5_3 x7_4 true)) else (refrainlaw5_TokenLimits.j5 kj21 x0_1 x5_3 x7_4 true)) = some r := by rw [if_neg (show ¬ (false = true) by decide)] at H; exact H
                                    clear H
                                    have H := H1
                                    clear H1
                                    have HC47 := Aside0.mk H
                                    clear H
                                    go_upto_region 25 with (fail)
                                    go_cut [163] (fun v163 wc => ∃ (kq : Nat) (x163_46 : Bool), v163 = .bool x163_46 ∧ Aside0 (refrainlaw5_TokenLimits.j5 kq x0_1 x5_3 x7_4 x163_46 = some r) ∧ Aside0 (kq ≤ kj21) ∧ Aside0 (Below w.heap.size w wc))
                                    case first =>
                                      have H := HC47.out
                                      clear HC47
                                      by_cases c48 : t350 = 0
                                      · as_aux_lemma =>
                                        rw [if_pos c48] at H
                                        have c48b0 : (t350 == 0) = true := beq_iff_eq.mpr c48
                                        have c48b1 : (t350 != 0) = false := bne_eq_false_iff_eq.mpr c48
                                        clear c48
                                        (first | rw [c48b0] | (simp only [i64_w, i32_w, IntKind.wrap_u8, IntKind.wrap_u16, IntKind.wrap_u32]; rw [c48b0]) | skip)
                                        by_cases c49 : t349 = 0
                                        · as_aux_lemma =>
                                          rw [if_pos c49] at H
                                          have c49b0 : (t349 == 0) = true := beq_iff_eq.mpr c49
                                          have c49b1 : (t349 != 0) = false := bne_eq_false_iff_eq.mpr c49
                                          clear c49
                                          by_cases c50 : (t348.length : Int) = 1
                                          · as_aux_lemma =>
                                            rw [if_pos c50] at H
                                            have c50b0 : ((t348.length : Int) == 1) = true := beq_iff_eq.mpr c50
                                            have c50b1 : ((t348.length : Int) != 1) = false := bne_eq_false_iff_eq.mpr c50
                                            clear c50
                                            by_cases c51 : 0 < (t348.length : Int)
                                            · as_aux_lemma =>
                                              rw [if_pos c51] at H
                                              have c51b0 : decide (0 < (t348.length : Int)) = true := decide_eq_true c51
                                              have c51b1 : decide (0 < t348.length) = true := decide_eq_true (by omega)
                                              clear c51
                                              by_cases c52 : ((rd_T44 t348 0).f2) = 4096
                                              · as_aux_lemma =>
                                                rw [if_pos c52] at H
                                                have c52b0 : (((rd_T44 t348 0).f2) == 4096) = true := beq_iff_eq.mpr c52
                                                have c52b1 : (((rd_T44 t348 0).f2) != 4096) = false := bne_eq_false_iff_eq.mpr c52
                                                clear c52
                                                have H' := Aside0.mk H
                                                clear H
                                                obtain ⟨Ao53, co53, eo53⟩ := Kd.R_slice HO_20.out
                                                subst eo53
                                                have p359 : 0 ≤ (0 : Int) := (by omega)
                                                have q359 : 0 < (t348.length : Int) := of_decide_eq_true (by first | (with_reducible assumption) | assumption)
                                                obtain ⟨ad359, e359, hx359_0, hx359_1, hx359_2⟩ := at_T44 (Kd.R_reads' HO_20.out).2.2 0 p359 q359
                                                cases e359
                                                have qi359 : (0 < t348.length) = True := eq_true (by omega)
                                                (try rw [show ((0 : Int)).toNat = 0 from rfl] at hx359_0)
                                                (try rw [show 0 * 3 = 0 from rfl] at hx359_0)
                                                (try rw [Addr.add_zero'] at hx359_0)
                                                (try rw [show ((0 : Int)).toNat = 0 from rfl] at hx359_1)
                                                (try rw [show 0 * 3 = 0 from rfl] at hx359_1)
                                                (try rw [Addr.add_zero'] at hx359_1)
                                                (try rw [show ((0 : Int)).toNat = 0 from rfl] at hx359_2)
                                                (try rw [show 0 * 3 = 0 from rfl] at hx359_2)
                                                (try rw [Addr.add_zero'] at hx359_2)
                                                replace p359 := eq_true p359
                                                replace q359 := eq_true q359
                                                go_wp2
                                                go_meet
                                                case rel => exact ⟨_, ((t355 != 2)), (by first | rfl | (simp; done) | (simp [*]; done) | (simp; unfold wrap64; omega)), H', ⟨by have := HJ1.out; have := HK2.out; have := HK3.out; have := HK4.out; have := HJ21.out; first | omega | exact Nat.le_refl _⟩, ⟨by repeat (first | (with_reducible first | exact HB.out | apply below_alloc | apply pw_below_drewN | apply below_drew1) | exact HB.out)⟩⟩
                                              · as_aux_lemma =>
                                                rw [if_neg c52] at H
                                                have c52b0 : (((rd_T44 t348 0).f2) == 4096) = false := beq_eq_false_iff_ne.mpr c52
                                                have c52b1 : (((rd_T44 t348 0).f2) != 4096) = true := bne_iff_ne.mpr c52
                                                have H' := Aside0.mk H
                                                clear H
                                                obtain ⟨Ao54, co54, eo54⟩ := Kd.R_slice HO_20.out
                                                subst eo54
                                                have p359 : 0 ≤ (0 : Int) := (by omega)
                                                have q359 : 0 < (t348.length : Int) := of_decide_eq_true (by first | (with_reducible assumption) | assumption)
                                                obtain ⟨ad359, e359, hx359_0, hx359_1, hx359_2⟩ := at_T44 (Kd.R_reads' HO_20.out).2.2 0 p359 q359
                                                cases e359
                                                have qi359 : (0 < t348.length) = True := eq_true (by omega)
                                                (try rw [show ((0 : Int)).toNat = 0 from rfl] at hx359_0)
                                                (try rw [show 0 * 3 = 0 from rfl] at hx359_0)
                                                (try rw [Addr.add_zero'] at hx359_0)
                                                (try rw [show ((0 : Int)).toNat = 0 from rfl] at hx359_1)
                                                (try rw [show 0 * 3 = 0 from rfl] at hx359_1)
                                                (try rw [Addr.add_zero'] at hx359_1)
                                                (try rw [show ((0 : Int)).toNat = 0 from rfl] at hx359_2)
                                                (try rw [show 0 * 3 = 0 from rfl] at hx359_2)
                                                (try rw [Addr.add_zero'] at hx359_2)
                                                replace p359 := eq_true p359
                                                replace q359 := eq_true q359
                                                go_wp2
                                                go_meet
                                                case rel => exact ⟨_, (true), (by first | rfl | (simp; done) | (simp [*]; done) | (simp; unfold wrap64; omega)), H', ⟨by have := HJ1.out; have := HK2.out; have := HK3.out; have := HK4.out; have := HJ21.out; first | omega | exact Nat.le_refl _⟩, ⟨by repeat (first | (with_reducible first | exact HB.out | apply below_alloc | apply pw_below_drewN | apply below_drew1) | exact HB.out)⟩⟩
                                            · as_aux_lemma =>
                                              rw [if_neg c51] at H
                                              exact absurd H (by simp)
                                          · as_aux_lemma =>
                                            rw [if_neg c50] at H
                                            have c50b0 : ((t348.length : Int) == 1) = false := beq_eq_false_iff_ne.mpr c50
                                            have c50b1 : ((t348.length : Int) != 1) = true := bne_iff_ne.mpr c50
                                            have H' := Aside0.mk H
                                            clear H
                                            obtain ⟨Ao55, co55, eo55⟩ := Kd.R_slice HO_20.out
                                            subst eo55
                                            go_wp2
                                            go_meet
                                            case rel => exact ⟨_, (true), (by first | rfl | (simp; done) | (simp [*]; done) | (simp; unfold wrap64; omega)), H', ⟨by have := HJ1.out; have := HK2.out; have := HK3.out; have := HK4.out; have := HJ21.out; first | omega | exact Nat.le_refl _⟩, ⟨by repeat (first | (with_reducible first | exact HB.out | apply below_alloc | apply pw_below_drewN | apply below_drew1) | exact HB.out)⟩⟩
                                        · as_aux_lemma =>
                                          rw [if_neg c49] at H
                                          have c49b0 : (t349 == 0) = false := beq_eq_false_iff_ne.mpr c49
                                          have c49b1 : (t349 != 0) = true := bne_iff_ne.mpr c49
                                          have H' := Aside0.mk H
                                          clear H
                                          go_wp2
                                          go_meet
                                          case rel => exact ⟨_, (true), (by first | rfl | (simp; done) | (simp [*]; done) | (simp; unfold wrap64; omega)), H', ⟨by have := HJ1.out; have := HK2.out; have := HK3.out; have := HK4.out; have := HJ21.out; first | omega | exact Nat.le_refl _⟩, ⟨by repeat (first | (with_reducible first | exact HB.out | apply below_alloc | apply pw_below_drewN | apply below_drew1) | exact HB.out)⟩⟩
                                      · as_aux_lemma =>
                                        rw [if_neg c48] at H
                                        have c48b0 : (t350 == 0) = false := beq_eq_false_iff_ne.mpr c48
                                        have c48b1 : (t350 != 0) = true := bne_iff_ne.mpr c48
                                        (first | rw [c48b0] | (simp only [i64_w, i32_w, IntKind.wrap_u8, IntKind.wrap_u16, IntKind.wrap_u32]; rw [c48b0]) | skip)
                                        have H' := Aside0.mk H
                                        clear H
                                        go_wp2
                                        go_meet
                                        case rel => exact ⟨_, (true), (by first | rfl | (simp; done) | (simp [*]; done) | (simp; unfold wrap64; omega)), H', ⟨by have := HJ1.out; have := HK2.out; have := HK3.out; have := HK4.out; have := HJ21.out; first | omega | exact Nat.le_refl _⟩, ⟨by repeat (first | (with_reducible first | exact HB.out | apply below_alloc | apply pw_below_drewN | apply below_drew1) | exact HB.out)⟩⟩
                                    case rest =>
                                      clear HC47
                                      try clear c1
                                      try clear c2
                                      try clear p2
                                      try clear c3
                                      try clear c3b0
                                      try clear p3
                                      try clear q3
                                      try clear hx3
                                      try clear qi3
                                      try clear c4
                                      try clear c4b0
                                      try clear c5
                                      try clear c5b0
                                      try clear c5b1
                                      try clear c5b2
                                      try clear p6
                                      try clear c8
                                      try clear hcv8
                                      try clear c9
                                      try clear c9b0
                                      try clear c10
                                      try clear c10b0
                                      try clear c10b1
                                      try clear c10b2
                                      try clear c11
                                      try clear c11b0
                                      try clear c11b1
                                      try clear c12
                                      try clear c12b0
                                      try clear c12b1
                                      try clear c12b2
                                      try clear c13
                                      try clear c13b0
                                      try clear c13b1
                                      try clear c13b2
                                      try clear c15
                                      try clear c15b0
                                      try clear c15b1
                                      try clear c15b2
                                      try clear c20
                                      try clear c20b0
                                      try clear c20b1
                                      try clear c20b2
                                      try clear c21
                                      try clear c29
                                      try clear c29b0
                                      try clear c29b1
                                      try clear c30
                                      try clear c30b0
                                      try clear c30b1
                                      try clear c31
                                      try clear c31b0
                                      try clear c31b1
                                      try clear c32
                                      try clear c32b0
                                      try clear c32b1
                                      try clear c33
                                      try clear c33b0
                                      try clear c33b1
                                      try clear c34
                                      try clear c34b0
                                      try clear c34b1
                                      try clear c35
                                      try clear c35b0
                                      try clear c35b1
                                      try clear p35
                                      try clear q35
                                      try clear hx35
                                      try clear qi35
                                      try clear c36
                                      try clear c36b0
                                      try clear c36b1
                                      try clear c46
                                      try clear c48
                                      try clear c48b0
                                      try clear c48b1
                                      try clear c49
                                      try clear c49b0
                                      try clear c49b1
                                      try clear c50
                                      try clear c50b0
                                      try clear c50b1
                                      try clear c51
                                      try clear c51b0
                                      try clear c51b1
                                      try clear c52
                                      try clear c52b0
                                      try clear c52b1
                                      try clear hx358_0
                                      try clear hx358_1
                                      try clear hx358_2
                                      try clear hx359_0
                                      try clear hx359_1
                                      try clear hx359_2
                                      try clear p2
                                      try clear p3
                                      try clear p35
                                      try clear p358
                                      try clear p359
                                      try clear p6
                                      try clear q3
                                      try clear q35
                                      try clear q358
                                      try clear q359
                                      obtain ⟨kq, x163_46, rfl, HA, HJ46, HB⟩ := hcut
                                      cases kq with
                                      | zero => (have HA2 := HA.out; clear HA; revert HA2; rw [refrainlaw5_TokenLimits.j5_zero]; intro h_; cases h_)
                                      | succ kj46 =>
                                        have H := HA.out
                                        clear HA
                                        simp only [refrainlaw5_TokenLimits.j5] at H
                                        by_cases c56 : x163_46 = true
                                        · subst c56
                                          have H1 : (some false) = some r := by rw [if_pos rfl] at H; exact H
                                          clear H
                                          have H := H1
                                          clear H1
                                          obtain rfl := Option.some.inj H
                                          go_wp2
                                          go_ret
                                          exact ⟨by first | rfl | (simp [errW_none, errW_some] <;> rfl) | (simp [*, errW_none, errW_some] <;> rfl), by repeat (first | (with_reducible first | exact HB.out | apply below_alloc | apply pw_below_drewN | apply below_drew1) | exact HB.out)⟩
                                        · replace c56 := Bool.eq_false_iff.mpr c56
                                          subst c56
                                          have H1 : (if 0 ≤ 256 then (if 256 ≤ (x7_4.size : Int) then (if x5_3.size + 1 ≤ 9223372036854775807 then (if (x5_3 ++ (⟨#[34]⟩ : ByteArray)).size + (x7_4.extract 0 256).size ≤ 9223372036854775807 then (if ((x5_3 ++ (⟨#[34]⟩ : ByteArray)) ++ (x7_4.extract 0 256)).size + 1 ≤ 9223372036854775807 then ((token_Scan.f kj46 (((x5_3 ++ (⟨#[34]⟩ : ByteArray)) ++ (x7_4.extract 0 256)) ++ (⟨#[34]⟩ : ByteArray))).bind fun bt360 => (if ((x5_3 ++ (⟨#[34]⟩ : ByteArray)) ++ (x7_4.extract 0 256)).size + 2 ≤ 9223372036854775807 then ((token_Scan.f kj46 (((x5_3 ++ (⟨#[34]⟩ : ByteArray)) ++ (x7_4.extract 0 256)) ++ (⟨#[32, 34]⟩ : ByteArray))).bind fun bt365 => (if bt360.2.2 = 0 then (if bt365.2.2 = 51 then (some (bt365.2.1 == x0_1)) else (some false)) else (some false))) else (none))) else (none)) else (none)) else (none)) else (none)) else (none)) = some r := by rw [if_neg (show ¬ (false = true) by decide)] at H; exact H
                                          clear H
                                          have H := H1
                                          clear H1
                                          by_cases c57 : 0 ≤ 256
                                          · as_aux_lemma =>
                                            rw [if_pos c57] at H
                                            have c57b0 := eq_true c57
                                            have c57b1 : decide (0 ≤ 256) = true := decide_eq_true c57
                                            clear c57
                                            by_cases c58 : 256 ≤ (x7_4.size : Int)
                                            · as_aux_lemma =>
                                              rw [if_pos c58] at H
                                              have c58b0 := eq_true c58
                                              have c58b1 : decide (256 ≤ (x7_4.size : Int)) = true := decide_eq_true c58
                                              clear c58
                                              by_cases c59 : x5_3.size + 1 ≤ 9223372036854775807
                                              · as_aux_lemma =>
                                                rw [if_pos c59] at H
                                                have c59b0 := eq_true c59
                                                have c59b1 : decide (x5_3.size + 1 ≤ 9223372036854775807) = true := decide_eq_true c59
                                                try have c59b2 : (9223372036854775807 < x5_3.size + 1) = False := eq_false (Nat.not_lt.2 c59)
                                                by_cases c60 : (x5_3 ++ (⟨#[34]⟩ : ByteArray)).size + (x7_4.extract 0 256).size ≤ 9223372036854775807
                                                · as_aux_lemma =>
                                                  rw [if_pos c60] at H
                                                  have c60b0 := eq_true c60
                                                  try (have c60s0 := c60; simp only [ByteArray.size_append, ByteArray.size_extract, Nat.sub_zero, size_lit1, size_lit2, size_lit3, size_lit4] at c60s0; have c60s2 := eq_false (Nat.not_lt.2 c60s0); replace c60s0 := eq_true c60s0)
                                                  have c60b1 : decide ((x5_3 ++ (⟨#[34]⟩ : ByteArray)).size + (x7_4.extract 0 256).size ≤ 9223372036854775807) = true := decide_eq_true c60
                                                  try have c60b2 : (9223372036854775807 < (x5_3 ++ (⟨#[34]⟩ : ByteArray)).size + (x7_4.extract 0 256).size) = False := eq_false (Nat.not_lt.2 c60)
                                                  by_cases c61 : ((x5_3 ++ (⟨#[34]⟩ : ByteArray)) ++ (x7_4.extract 0 256)).size + 1 ≤ 9223372036854775807
                                                  · as_aux_lemma =>
                                                    rw [if_pos c61] at H
                                                    have c61b0 := eq_true c61
                                                    try (have c61s0 := c61; simp only [ByteArray.size_append, ByteArray.size_extract, Nat.sub_zero, size_lit1, size_lit2, size_lit3, size_lit4] at c61s0; have c61s2 := eq_false (Nat.not_lt.2 c61s0); replace c61s0 := eq_true c61s0)
                                                    have c61b1 : decide (((x5_3 ++ (⟨#[34]⟩ : ByteArray)) ++ (x7_4.extract 0 256)).size + 1 ≤ 9223372036854775807) = true := decide_eq_true c61
                                                    try have c61b2 : (9223372036854775807 < ((x5_3 ++ (⟨#[34]⟩ : ByteArray)) ++ (x7_4.extract 0 256)).size + 1) = False := eq_false (Nat.not_lt.2 c61)
                                                    replace H := Option.bind_eq_some_iff.mp H
                                                    obtain ⟨⟨t360, t361, t362⟩, A620, H⟩ := H
                                                    replace H : (if ((x5_3 ++ (⟨#[34]⟩ : ByteArray)) ++ (x7_4.extract 0 256)).size + 2 ≤ 9223372036854775807 then ((token_Scan.f kj46 (((x5_3 ++ (⟨#[34]⟩ : ByteArray)) ++ (x7_4.extract 0 256)) ++ (⟨#[32, 34]⟩ : ByteArray))).bind fun bt365 => (if t362 = 0 then (if bt365.2.2 = 51 then (some (bt365.2.1 == x0_1)) else (some false)) else (some false))) else (none)) = some r := H
                                                    have A62 := Aside0.mk A620
                                                    clear A620
                                                    by_cases c63 : ((x5_3 ++ (⟨#[34]⟩ : ByteArray)) ++ (x7_4.extract 0 256)).size + 2 ≤ 9223372036854775807
                                                    · as_aux_lemma =>
                                                      rw [if_pos c63] at H
                                                      have c63b0 := eq_true c63
                                                      try (have c63s0 := c63; simp only [ByteArray.size_append, ByteArray.size_extract, Nat.sub_zero, size_lit1, size_lit2, size_lit3, size_lit4] at c63s0; have c63s2 := eq_false (Nat.not_lt.2 c63s0); replace c63s0 := eq_true c63s0)
                                                      have c63b1 : decide (((x5_3 ++ (⟨#[34]⟩ : ByteArray)) ++ (x7_4.extract 0 256)).size + 2 ≤ 9223372036854775807) = true := decide_eq_true c63
                                                      try have c63b2 : (9223372036854775807 < ((x5_3 ++ (⟨#[34]⟩ : ByteArray)) ++ (x7_4.extract 0 256)).size + 2) = False := eq_false (Nat.not_lt.2 c63)
                                                      replace H := Option.bind_eq_some_iff.mp H
                                                      obtain ⟨⟨t365, t366, t367⟩, A640, H⟩ := H
                                                      replace H : (if t362 = 0 then (if t367 = 51 then (some (t366 == x0_1)) else (some false)) else (some false)) = some r := H
                                                      have A64 := Aside0.mk A640
                                                      clear A640
                                                      by_cases c65 : t362 = 0
                                                      · as_aux_lemma =>
                                                        rw [if_pos c65] at H
                                                        have c65b0 : (t362 == 0) = true := beq_iff_eq.mpr c65
                                                        have c65b1 : (t362 != 0) = false := bne_eq_false_iff_eq.mpr c65
                                                        clear c65
                                                        by_cases c66 : t367 = 51
                                                        · as_aux_lemma =>
                                                          rw [if_pos c66] at H
                                                          have c66b0 : (t367 == 51) = true := beq_iff_eq.mpr c66
                                                          have c66b1 : (t367 != 51) = false := bne_eq_false_iff_eq.mpr c66
                                                          clear c66
                                                          obtain rfl := Option.some.inj H
                                                          go_wp2_with (first | ((with_reducible refine gate_callee (f := 21) rfl ?_); refine goesL_ (some 172) rfl rfl Tryd.func21 (by kernel_rfl) rfl #[.string (((x5_3 ++ (⟨#[34]⟩ : ByteArray)) ++ (x7_4.extract 0 256)) ++ (⟨#[34]⟩ : ByteArray))] rfl (by (try simp only [List.map_toArray, List.map_cons, List.map_nil]); first | done | rfl | (simp only [List.length_drop, List.length_take]; rfl)) ?_; (with_reducible refine (token_Scan.calls kj46 (((x5_3 ++ (⟨#[34]⟩ : ByteArray)) ++ (x7_4.extract 0 256)) ++ (⟨#[34]⟩ : ByteArray)) t360 t361 t362 _ ?side1 A62.out).mono ?_); (case side1 => first | exact HL_LErr | exact ⟨LErr.below HL_LErr.out (by repeat (first | (with_reducible first | exact HB.out | apply below_alloc | apply pw_below_drewN | apply below_drew1) | exact HB.out))⟩); rintro e w67 ⟨v363, rfl, ho0, hb⟩; refine ⟨_, rfl, ?_⟩; have n0_ := Aside0.mk (Kd.R_lower ho0 (below_size (by repeat (first | (with_reducible first | exact HB.out | apply below_alloc | apply pw_below_drewN | apply below_drew1) | exact HB.out)))); have n1_ := Aside0.mk (below_step (by repeat (first | (with_reducible first | exact HB.out | apply below_alloc | apply pw_below_drewN | apply below_drew1) | exact HB.out)) hb); clear HB; have HO364 := n0_; have HB := n1_; clear n0_ n1_; (try clear hb); (try clear hb2); (try clear hk); (try clear hi); (try clear ho0)) | ((with_reducible refine gate_callee (f := 21) rfl ?_); refine goesL_ (some 182) rfl rfl Tryd.func21 (by kernel_rfl) rfl #[.string (((x5_3 ++ (⟨#[34]⟩ : ByteArray)) ++ (x7_4.extract 0 256)) ++ (⟨#[32, 34]⟩ : ByteArray))] rfl (by (try simp only [List.map_toArray, List.map_cons, List.map_nil]); first | done | rfl | (simp only [List.length_drop, List.length_take]; rfl)) ?_; (with_reducible refine (token_Scan.calls kj46 (((x5_3 ++ (⟨#[34]⟩ : ByteArray)) ++ (x7_4.extract 0 256)) ++ (⟨#[32, 34]⟩ : ByteArray)) t365 t366 t367 _ ?side1 A64.out).mono ?_); (case side1 => first | exact HL_LErr | exact ⟨LErr.below HL_LErr.out (by repeat (first | (with_reducible first | exact HB.out | apply below_alloc | apply pw_below_drewN | apply below_drew1) | exact HB.out))⟩); rintro e w68 ⟨v368, rfl, ho0, hb⟩; refine ⟨_, rfl, ?_⟩; have n0_ := Aside0.mk (Kd.R_elder' (by (with_reducible repeat (first | apply Kd.R_alloc | apply Kd.R_drewN | apply Kd.R_drew)); exact HO364.out) (Kd.R_base ho0) hb); have n1_ := Aside0.mk (Kd.R_lower (Kd.R_new' ho0 (Kd.R_lt (by (with_reducible repeat (first | apply Kd.R_alloc | apply Kd.R_drewN | apply Kd.R_drew)); exact HO364.out))) (below_size (by repeat (first | (with_reducible first | exact HB.out | apply below_alloc | apply pw_below_drewN | apply below_drew1) | exact HB.out)))); have n2_ := Aside0.mk (below_step (by repeat (first | (with_reducible first | exact HB.out | apply below_alloc | apply pw_below_drewN | apply below_drew1) | exact HB.out)) hb); clear HO364; clear HB; have HO364 := n0_; have HO369 := n1_; have HB := n2_; clear n0_ n1_ n2_; (try clear hb); (try clear hb2); (try clear hk); (try clear hi); (try clear ho0)))
                                                          go_ret
                                                          exact ⟨by first | rfl | (simp [errW_none, errW_some] <;> rfl) | (simp [*, errW_none, errW_some] <;> rfl), by repeat (first | (with_reducible first | exact HB.out | apply below_alloc | apply pw_below_drewN | apply below_drew1) | exact HB.out)⟩
                                                        · as_aux_lemma =>
                                                          rw [if_neg c66] at H
                                                          have c66b0 : (t367 == 51) = false := beq_eq_false_iff_ne.mpr c66
                                                          have c66b1 : (t367 != 51) = true := bne_iff_ne.mpr c66
                                                          obtain rfl := Option.some.inj H
                                                          go_wp2_with (first | ((with_reducible refine gate_callee (f := 21) rfl ?_); refine goesL_ (some 172) rfl rfl Tryd.func21 (by kernel_rfl) rfl #[.string (((x5_3 ++ (⟨#[34]⟩ : ByteArray)) ++ (x7_4.extract 0 256)) ++ (⟨#[34]⟩ : ByteArray))] rfl (by (try simp only [List.map_toArray, List.map_cons, List.map_nil]); first | done | rfl | (simp only [List.length_drop, List.length_take]; rfl)) ?_; (with_reducible refine (token_Scan.calls kj46 (((x5_3 ++ (⟨#[34]⟩ : ByteArray)) ++ (x7_4.extract 0 256)) ++ (⟨#[34]⟩ : ByteArray)) t360 t361 t362 _ ?side1 A62.out).mono ?_); (case side1 => first | exact HL_LErr | exact ⟨LErr.below HL_LErr.out (by repeat (first | (with_reducible first | exact HB.out | apply below_alloc | apply pw_below_drewN | apply below_drew1) | exact HB.out))⟩); rintro e w69 ⟨v363, rfl, ho0, hb⟩; refine ⟨_, rfl, ?_⟩; have n0_ := Aside0.mk (Kd.R_lower ho0 (below_size (by repeat (first | (with_reducible first | exact HB.out | apply below_alloc | apply pw_below_drewN | apply below_drew1) | exact HB.out)))); have n1_ := Aside0.mk (below_step (by repeat (first | (with_reducible first | exact HB.out | apply below_alloc | apply pw_below_drewN | apply below_drew1) | exact HB.out)) hb); clear HB; have HO364 := n0_; have HB := n1_; clear n0_ n1_; (try clear hb); (try clear hb2); (try clear hk); (try clear hi); (try clear ho0)) | ((with_reducible refine gate_callee (f := 21) rfl ?_); refine goesL_ (some 182) rfl rfl Tryd.func21 (by kernel_rfl) rfl #[.string (((x5_3 ++ (⟨#[34]⟩ : ByteArray)) ++ (x7_4.extract 0 256)) ++ (⟨#[32, 34]⟩ : ByteArray))] rfl (by (try simp only [List.map_toArray, List.map_cons, List.map_nil]); first | done | rfl | (simp only [List.length_drop, List.length_take]; rfl)) ?_; (with_reducible refine (token_Scan.calls kj46 (((x5_3 ++ (⟨#[34]⟩ : ByteArray)) ++ (x7_4.extract 0 256)) ++ (⟨#[32, 34]⟩ : ByteArray)) t365 t366 t367 _ ?side1 A64.out).mono ?_); (case side1 => first | exact HL_LErr | exact ⟨LErr.below HL_LErr.out (by repeat (first | (with_reducible first | exact HB.out | apply below_alloc | apply pw_below_drewN | apply below_drew1) | exact HB.out))⟩); rintro e w70 ⟨v368, rfl, ho0, hb⟩; refine ⟨_, rfl, ?_⟩; have n0_ := Aside0.mk (Kd.R_elder' (by (with_reducible repeat (first | apply Kd.R_alloc | apply Kd.R_drewN | apply Kd.R_drew)); exact HO364.out) (Kd.R_base ho0) hb); have n1_ := Aside0.mk (Kd.R_lower (Kd.R_new' ho0 (Kd.R_lt (by (with_reducible repeat (first | apply Kd.R_alloc | apply Kd.R_drewN | apply Kd.R_drew)); exact HO364.out))) (below_size (by repeat (first | (with_reducible first | exact HB.out | apply below_alloc | apply pw_below_drewN | apply below_drew1) | exact HB.out)))); have n2_ := Aside0.mk (below_step (by repeat (first | (with_reducible first | exact HB.out | apply below_alloc | apply pw_below_drewN | apply below_drew1) | exact HB.out)) hb); clear HO364; clear HB; have HO364 := n0_; have HO369 := n1_; have HB := n2_; clear n0_ n1_ n2_; (try clear hb); (try clear hb2); (try clear hk); (try clear hi); (try clear ho0)))
                                                          go_ret
                                                          exact ⟨by first | rfl | (simp [errW_none, errW_some] <;> rfl) | (simp [*, errW_none, errW_some] <;> rfl), by repeat (first | (with_reducible first | exact HB.out | apply below_alloc | apply pw_below_drewN | apply below_drew1) | exact HB.out)⟩
                                                      · as_aux_lemma =>
                                                        rw [if_neg c65] at H
                                                        have c65b0 : (t362 == 0) = false := beq_eq_false_iff_ne.mpr c65
                                                        have c65b1 : (t362 != 0) = true := bne_iff_ne.mpr c65
                                                        obtain rfl := Option.some.inj H
                                                        go_wp2_with (first | ((with_reducible refine gate_callee (f := 21) rfl ?_); refine goesL_ (some 172) rfl rfl Tryd.func21 (by kernel_rfl) rfl #[.string (((x5_3 ++ (⟨#[34]⟩ : ByteArray)) ++ (x7_4.extract 0 256)) ++ (⟨#[34]⟩ : ByteArray))] rfl (by (try simp only [List.map_toArray, List.map_cons, List.map_nil]); first | done | rfl | (simp only [List.length_drop, List.length_take]; rfl)) ?_; (with_reducible refine (token_Scan.calls kj46 (((x5_3 ++ (⟨#[34]⟩ : ByteArray)) ++ (x7_4.extract 0 256)) ++ (⟨#[34]⟩ : ByteArray)) t360 t361 t362 _ ?side1 A62.out).mono ?_); (case side1 => first | exact HL_LErr | exact ⟨LErr.below HL_LErr.out (by repeat (first | (with_reducible first | exact HB.out | apply below_alloc | apply pw_below_drewN | apply below_drew1) | exact HB.out))⟩); rintro e w71 ⟨v363, rfl, ho0, hb⟩; refine ⟨_, rfl, ?_⟩; have n0_ := Aside0.mk (Kd.R_lower ho0 (below_size (by repeat (first | (with_reducible first | exact HB.out | apply below_alloc | apply pw_below_drewN | apply below_drew1) | exact HB.out)))); have n1_ := Aside0.mk (below_step (by repeat (first | (with_reducible first | exact HB.out | apply below_alloc | apply pw_below_drewN | apply below_drew1) | exact HB.out)) hb); clear HB; have HO364 := n0_; have HB := n1_; clear n0_ n1_; (try clear hb); (try clear hb2); (try clear hk); (try clear hi); (try clear ho0)) | ((with_reducible refine gate_callee (f := 21) rfl ?_); refine goesL_ (some 182) rfl rfl Tryd.func21 (by kernel_rfl) rfl #[.string (((x5_3 ++ (⟨#[34]⟩ : ByteArray)) ++ (x7_4.extract 0 256)) ++ (⟨#[32, 34]⟩ : ByteArray))] rfl (by (try simp only [List.map_toArray, List.map_cons, List.map_nil]); first | done | rfl | (simp only [List.length_drop, List.length_take]; rfl)) ?_; (with_reducible refine (token_Scan.calls kj46 (((x5_3 ++ (⟨#[34]⟩ : ByteArray)) ++ (x7_4.extract 0 256)) ++ (⟨#[32, 34]⟩ : ByteArray)) t365 t366 t367 _ ?side1 A64.out).mono ?_); (case side1 => first | exact HL_LErr | exact ⟨LErr.below HL_LErr.out (by repeat (first | (with_reducible first | exact HB.out | apply below_alloc | apply pw_below_drewN | apply below_drew1) | exact HB.out))⟩); rintro e w72 ⟨v368, rfl, ho0, hb⟩; refine ⟨_, rfl, ?_⟩; have n0_ := Aside0.mk (Kd.R_elder' (by (with_reducible repeat (first | apply Kd.R_alloc | apply Kd.R_drewN | apply Kd.R_drew)); exact HO364.out) (Kd.R_base ho0) hb); have n1_ := Aside0.mk (Kd.R_lower (Kd.R_new' ho0 (Kd.R_lt (by (with_reducible repeat (first | apply Kd.R_alloc | apply Kd.R_drewN | apply Kd.R_drew)); exact HO364.out))) (below_size (by repeat (first | (with_reducible first | exact HB.out | apply below_alloc | apply pw_below_drewN | apply below_drew1) | exact HB.out)))); have n2_ := Aside0.mk (below_step (by repeat (first | (with_reducible first | exact HB.out | apply below_alloc | apply pw_below_drewN | apply below_drew1) | exact HB.out)) hb); clear HO364; clear HB; have HO364 := n0_; have HO369 := n1_; have HB := n2_; clear n0_ n1_ n2_; (try clear hb); (try clear hb2); (try clear hk); (try clear hi); (try clear ho0)))
                                                        go_ret
                                                        exact ⟨by first | rfl | (simp [errW_none, errW_some] <;> rfl) | (simp [*, errW_none, errW_some] <;> rfl), by repeat (first | (with_reducible first | exact HB.out | apply below_alloc | apply pw_below_drewN | apply below_drew1) | exact HB.out)⟩
                                                    · as_aux_lemma =>
                                                      rw [if_neg c63] at H
                                                      exact absurd H (by simp)
                                                  · as_aux_lemma =>
                                                    rw [if_neg c61] at H
                                                    exact absurd H (by simp)
                                                · as_aux_lemma =>
                                                  rw [if_neg c60] at H
                                                  exact absurd H (by simp)
                                              · as_aux_lemma =>
                                                rw [if_neg c59] at H
                                                exact absurd H (by simp)
                                            · as_aux_lemma =>
                                              rw [if_neg c58] at H
                                              exact absurd H (by simp)
                                          · as_aux_lemma =>
                                            rw [if_neg c57] at H
                                            exact absurd H (by simp)
                            · as_aux_lemma =>
                              rw [if_neg c20] at H
                              exact absurd H (by simp)
                          · as_aux_lemma =>
                            rw [if_neg c15] at H
                            exact absurd H (by simp)
                        · as_aux_lemma =>
                          rw [if_neg c13] at H
                          exact absurd H (by simp)

/-- THE ONE PURE STATEMENT of refrainlaw5_TokenLimits: yours. -/
def refrainlaw5_TokenLimits.Pure : Prop := ∀ (a0 : Int), (Lit.int .i64 a0).wf = true → ∃ k, refrainlaw5_TokenLimits.f k a0 = some true
theorem refrainlaw5_TokenLimits.walk (P : refrainlaw5_TokenLimits.Pure) (a0 : Int) (w : World) (w0 : (Lit.int .i64 a0).wf = true) (HL_LErr : Aside0 (LErr w)) :
    Calls Tryd.prog 8 #[.int .i64 a0] w fun e w' => e = .returned (.bool true) ∧ Below w.heap.size w w' := by
  obtain ⟨k, h⟩ := P a0 w0
  refine (refrainlaw5_TokenLimits.calls k a0 true w HL_LErr h).mono ?_
  rintro e w' ⟨rfl, hd⟩
  exact ⟨rfl, hd⟩

end Go.Proofs.YthmcapdakplhdaaDoor.Pr

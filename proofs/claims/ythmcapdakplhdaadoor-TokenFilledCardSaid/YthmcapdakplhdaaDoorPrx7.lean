-- printed by a patched copy of the kit's print, for this seat
import Derived.Test.YthmcapdakplhdaaDoorPrx0
import Derived.Test.YthmcapdakplhdaaDoorPrx2
namespace Go.Proofs.YthmcapdakplhdaaDoor.Pr
open Go.RowKit Go.Proofs.YthmcapdakplhdaaDoorW.PrintWords Go.Proofs.YthmcapdakplhdaaDoorW.PrintLast Go.Proofs.YthmcapdakplhdaaDoorW.PrintMore
attribute [local go_sem] max2_int min2_int max_two min_two max_three min_three max_four min_four   -- for this text's walks alone
attribute [local go_sem high] Go.Proofs.YthmcapdakplhdaaDoor.isSome_setCell
set_option maxRecDepth 100000
set_option linter.unusedVariables false
set_option linter.unusedSimpArgs false

/-! ### token_signAt: function 51 -/
mutual
def token_signAt.j0 : Nat → ByteArray → Int → Int → Bool → Option (Int)
  | 0, _, _, _, _ => none
  | k + 1, x0, x3, x7, x8 => if x8 = true then (if 1 ≤ (x0.size : Int) then ((strings_HasPrefix.f (x0.extract 1 x0.size) (⟨#[61]⟩ : ByteArray)).bind fun t191 => (if t191 = true then (some (wrap64 ((wrap64 (x3 + 1)) + 1))) else (some (wrap64 (x3 + 1))))) else (none)) else (if x7 = 40 then (token_signAt.j1 k x0 x3 x7 (x7 == 40)) else (if x7 = 41 then (token_signAt.j1 k x0 x3 x7 (x7 == 41)) else (if x7 = 91 then (token_signAt.j1 k x0 x3 x7 (x7 == 91)) else (if x7 = 93 then (token_signAt.j1 k x0 x3 x7 (x7 == 93)) else (if x7 = 123 then (token_signAt.j1 k x0 x3 x7 (x7 == 123)) else (if x7 = 125 then (token_signAt.j1 k x0 x3 x7 (x7 == 125)) else (if x7 = 44 then (token_signAt.j1 k x0 x3 x7 (x7 == 44)) else (if x7 = 43 then (token_signAt.j1 k x0 x3 x7 (x7 == 43)) else (if x7 = 45 then (token_signAt.j1 k x0 x3 x7 (x7 == 45)) else (if x7 = 42 then (token_signAt.j1 k x0 x3 x7 (x7 == 42)) else (token_signAt.j1 k x0 x3 x7 (x7 == 61))))))))))))
def token_signAt.j1 : Nat → ByteArray → Int → Int → Bool → Option (Int)
  | 0, _, _, _, _ => none
  | k + 1, x0, x3, x7, x12 => if x12 = true then (some (wrap64 (x3 + 1))) else (if x7 = 46 then (if 1 ≤ (x0.size : Int) then ((strings_HasPrefix.f (x0.extract 1 x0.size) (⟨#[46]⟩ : ByteArray)).bind fun t190 => (if t190 = true then (some 2) else (some 1))) else (none)) else (some x3))
end
def token_signAt.f (k : Nat) (a0 : ByteArray) : Option (Int) := if a0.toList = ([] : List UInt8) then (some 0) else (if 0 < (a0.size : Int) then (if (bt a0 0) = 33 then (token_signAt.j0 k a0 0 (bt a0 0) ((bt a0 0) == 33)) else (if (bt a0 0) = 60 then (token_signAt.j0 k a0 0 (bt a0 0) ((bt a0 0) == 60)) else (token_signAt.j0 k a0 0 (bt a0 0) ((bt a0 0) == 62)))) else (none))
set_option maxRecDepth 100000 in
theorem token_signAt.j0_zero : ∀ y0 y1 y2 y3, token_signAt.j0 0 y0 y1 y2 y3 = none := fun _ _ _ _ => rfl
set_option maxRecDepth 100000 in
theorem token_signAt.j1_zero : ∀ y0 y1 y2 y3, token_signAt.j1 0 y0 y1 y2 y3 = none := fun _ _ _ _ => rfl
set_option maxRecDepth 100000 in
theorem token_signAt.mono_l : ∀ k, (∀ y0 y1 y2 y3, LeO (token_signAt.j0 k y0 y1 y2 y3) (token_signAt.j0 (k + 1) y0 y1 y2 y3)) ∧ (∀ y0 y1 y2 y3, LeO (token_signAt.j1 k y0 y1 y2 y3) (token_signAt.j1 (k + 1) y0 y1 y2 y3))
  | 0 => ⟨fun _ _ _ _ r h => by (unfold token_signAt.j0 at h; cases h), fun _ _ _ _ r h => by (unfold token_signAt.j1 at h; cases h)⟩
  | k + 1 => by
    obtain ⟨ih0, ih1⟩ := token_signAt.mono_l k
    refine ⟨?_, ?_⟩
    · intro y0 y1 y2 y3
      unfold token_signAt.j0
      repeat' first
      | (with_reducible exact ih0 _ _ _ _)
      | (with_reducible exact ih1 _ _ _ _)
      | (with_reducible exact LeO.refl _)
      | (with_reducible exact LeO.none _)
      | (with_reducible refine LeO.ite ?_ ?_)
      | (with_reducible refine LeO.bind ?_ (fun _ => ?_))
      | exact ih0 _ _ _ _
      | exact ih1 _ _ _ _
      | exact LeO.none _
      | refine LeO.ite ?_ ?_
      | refine LeO.bind ?_ (fun _ => ?_)
    · intro y0 y1 y2 y3
      unfold token_signAt.j1
      repeat' first
      | (with_reducible exact ih0 _ _ _ _)
      | (with_reducible exact ih1 _ _ _ _)
      | (with_reducible exact LeO.refl _)
      | (with_reducible exact LeO.none _)
      | (with_reducible refine LeO.ite ?_ ?_)
      | (with_reducible refine LeO.bind ?_ (fun _ => ?_))
      | exact ih0 _ _ _ _
      | exact ih1 _ _ _ _
      | exact LeO.none _
      | refine LeO.ite ?_ ?_
      | refine LeO.bind ?_ (fun _ => ?_)
set_option maxRecDepth 100000 in
theorem token_signAt.mono : ∀ a0 k, LeO (token_signAt.f k a0) (token_signAt.f (k + 1) a0) := by
  intro a0 k
  obtain ⟨ih0, ih1⟩ := token_signAt.mono_l k
  unfold token_signAt.f
  repeat' first
      | (with_reducible exact ih0 _ _ _ _)
      | (with_reducible exact ih1 _ _ _ _)
      | (with_reducible exact LeO.refl _)
      | (with_reducible exact LeO.none _)
      | (with_reducible refine LeO.ite ?_ ?_)
      | (with_reducible refine LeO.bind ?_ (fun _ => ?_))
      | exact ih0 _ _ _ _
      | exact ih1 _ _ _ _
      | exact LeO.none _
      | refine LeO.ite ?_ ?_
      | refine LeO.bind ?_ (fun _ => ?_)
set_option maxHeartbeats 8000000 in
set_option maxRecDepth 100000 in
theorem token_signAt.calls (k : Nat) (a0 : ByteArray) (r : Int) (w : World) (h : token_signAt.f k a0 = some r) :
    Calls Tryd.prog 51 #[.string a0] w fun e w' => e = .returned (.int .i64 r) ∧ Drawn0 w w' := by
  have H : (if a0.toList = ([] : List UInt8) then (some 0) else (if 0 < (a0.size : Int) then (if (bt a0 0) = 33 then (token_signAt.j0 k a0 0 (bt a0 0) ((bt a0 0) == 33)) else (if (bt a0 0) = 60 then (token_signAt.j0 k a0 0 (bt a0 0) ((bt a0 0) == 60)) else (token_signAt.j0 k a0 0 (bt a0 0) ((bt a0 0) == 62)))) else (none))) = some r := h
  clear h
  by_cases c2 : a0.toList = ([] : List UInt8)
  · rw [if_pos c2] at H
    have c2b0 : (a0.toList == ([] : List UInt8)) = true := beq_iff_eq.mpr c2
    have c2b1 : (a0.toList != ([] : List UInt8)) = false := bne_eq_false_iff_eq.mpr c2
    clear c2
    obtain rfl := Option.some.inj H
    go_enter Tryd.func51, Tryd.ntmps51
    go_wp2
    go_ret
    exact ⟨by first | rfl | (simp; done) | (simp [*]; done) | (simp; unfold wrap64; omega) | (congr 1; (try rw [Bool.eq_iff_iff]); simp [List.isEmpty_iff]; done), by repeat (first | exact Drawn0.refl _ | apply Drawn0.step)⟩
  · rw [if_neg c2] at H
    have c2b0 : (a0.toList == ([] : List UInt8)) = false := beq_eq_false_iff_ne.mpr c2
    have c2b1 : (a0.toList != ([] : List UInt8)) = true := bne_iff_ne.mpr c2
    by_cases c3 : 0 < (a0.size : Int)
    · rw [if_pos c3] at H
      have c3b0 : decide (0 < (a0.size : Int)) = true := decide_eq_true c3
      have c3b1 : decide (0 < a0.size) = true := decide_eq_true (by omega)
      clear c3
      have HC5 := Aside0.mk H
      clear H
      have p4 : 0 ≤ (0 : Int) := (by omega)
      have q4 : 0 < a0.size := (by have : (0 : Int) < (a0.size : Int) := of_decide_eq_true (by first | (with_reducible assumption) | assumption); omega)
      have hx4 : ∀ h : 0 < a0.size, ((a0[0]'h).toNat : Int) = bt a0 0 := bt_at a0 0
      clear p4
      have qi4 : (0 < (a0.size : Int)) = True := eq_true (of_decide_eq_true (by first | (with_reducible assumption) | assumption))
      replace q4 := eq_true q4
      go_enter Tryd.func51, Tryd.ntmps51
      go_upto_if 8 with (fail)
      go_cut [8] (fun v8 wc => ∃ (kq : Nat) (x8_4 : Bool), v8 = .bool x8_4 ∧ Aside0 (token_signAt.j0 kq a0 0 (bt a0 0) x8_4 = some r) ∧ Aside0 (kq ≤ k) ∧ Drawn0 w wc)
      case first =>
        have H := HC5.out
        clear HC5
        by_cases c6 : (bt a0 0) = 33
        · rw [if_pos c6] at H
          have c6b0 : ((bt a0 0) == 33) = true := beq_iff_eq.mpr c6
          have c6b1 : ((bt a0 0) != 33) = false := bne_eq_false_iff_eq.mpr c6
          clear c6
          (first | rw [c6b0] | (simp only [i64_w, i32_w, IntKind.wrap_u8, IntKind.wrap_u16, IntKind.wrap_u32]; rw [c6b0]) | skip)
          have H' := Aside0.mk H
          clear H
          go_wp2
          go_meet
          case rel => exact ⟨_, (((bt a0 0) == 33)), (by first | rfl | (simp; done) | (simp [*]; done) | (simp; unfold wrap64; omega) | (congr 1; (try rw [Bool.eq_iff_iff]); simp [List.isEmpty_iff]; done)), H', ⟨by first | omega | exact Nat.le_refl _⟩, by repeat (first | exact Drawn0.refl _ | apply Drawn0.step)⟩
        · rw [if_neg c6] at H
          have c6b0 : ((bt a0 0) == 33) = false := beq_eq_false_iff_ne.mpr c6
          have c6b1 : ((bt a0 0) != 33) = true := bne_iff_ne.mpr c6
          (first | rw [c6b0] | (simp only [i64_w, i32_w, IntKind.wrap_u8, IntKind.wrap_u16, IntKind.wrap_u32]; rw [c6b0]) | skip)
          by_cases c7 : (bt a0 0) = 60
          · rw [if_pos c7] at H
            have c7b0 : ((bt a0 0) == 60) = true := beq_iff_eq.mpr c7
            have c7b1 : ((bt a0 0) != 60) = false := bne_eq_false_iff_eq.mpr c7
            clear c7
            have H' := Aside0.mk H
            clear H
            go_wp2
            go_meet
            case rel => exact ⟨_, (((bt a0 0) == 60)), (by first | rfl | (simp; done) | (simp [*]; done) | (simp; unfold wrap64; omega) | (congr 1; (try rw [Bool.eq_iff_iff]); simp [List.isEmpty_iff]; done)), H', ⟨by first | omega | exact Nat.le_refl _⟩, by repeat (first | exact Drawn0.refl _ | apply Drawn0.step)⟩
          · rw [if_neg c7] at H
            have c7b0 : ((bt a0 0) == 60) = false := beq_eq_false_iff_ne.mpr c7
            have c7b1 : ((bt a0 0) != 60) = true := bne_iff_ne.mpr c7
            have H' := Aside0.mk H
            clear H
            go_wp2
            go_meet
            case rel => exact ⟨_, (((bt a0 0) == 62)), (by first | rfl | (simp; done) | (simp [*]; done) | (simp; unfold wrap64; omega) | (congr 1; (try rw [Bool.eq_iff_iff]); simp [List.isEmpty_iff]; done)), H', ⟨by first | omega | exact Nat.le_refl _⟩, by repeat (first | exact Drawn0.refl _ | apply Drawn0.step)⟩
      case rest =>
        clear HC5
        try clear c2
        try clear c2b0
        try clear c2b1
        try clear p2
        try clear c3
        try clear c3b0
        try clear c3b1
        try clear p4
        try clear q4
        try clear hx4
        try clear qi4
        try clear c5
        try clear c6
        try clear c6b0
        try clear c6b1
        try clear c7
        try clear c7b0
        try clear c7b1
        try clear p4
        try clear q4
        obtain ⟨kq, x8_4, rfl, HA, HJ4, ⟨mc4, rfl⟩⟩ := hcut
        cases kq with
        | zero => (have HA2 := HA.out; clear HA; revert HA2; rw [token_signAt.j0_zero]; intro h_; cases h_)
        | succ kj4 =>
          have H := HA.out
          clear HA
          simp only [token_signAt.j0] at H
          by_cases c8 : x8_4 = true
          · subst c8
            have H1 : (if 1 ≤ (a0.size : Int) then ((strings_HasPrefix.f (a0.extract 1 a0.size) (⟨#[61]⟩ : ByteArray)).bind fun t191 => (if t191 = true then (some (wrap64 ((wrap64 (0 + 1)) + 1))) else (some (wrap64 (0 + 1))))) else (none)) = some r := by rw [if_pos rfl] at H; exact H
            clear H
            have H := H1
            clear H1
            by_cases c9 : 1 ≤ (a0.size : Int)
            · rw [if_pos c9] at H
              have c9b0 := eq_true c9
              have c9b1 : decide (1 ≤ (a0.size : Int)) = true := decide_eq_true c9
              clear c9
              replace H := Option.bind_eq_some_iff.mp H
              obtain ⟨t191, A100, H⟩ := H
              replace H : (if t191 = true then (some (wrap64 ((wrap64 (0 + 1)) + 1))) else (some (wrap64 (0 + 1)))) = some r := H
              have A10 := Aside0.mk A100
              clear A100
              by_cases c11 : t191 = true
              · subst c11
                have H1 : (some (wrap64 ((wrap64 (0 + 1)) + 1))) = some r := by rw [if_pos rfl] at H; exact H
                clear H
                have H := H1
                clear H1
                obtain rfl := Option.some.inj H
                go_wp2_with (first | ((with_reducible refine gate_callee (f := 45) rfl ?_); refine goesT (some 28) Tryd.func45 #[.string (a0.extract 1 a0.size), .string (⟨#[61]⟩ : ByteArray)] ?_; (with_reducible refine (strings_HasPrefix.calls (a0.extract 1 a0.size) (⟨#[61]⟩ : ByteArray) true _ A10.out).mono ?_); rintro e w' ⟨rfl, ⟨nd, rfl⟩⟩; refine ⟨_, rfl, ?_⟩))
                go_ret
                exact ⟨by first | rfl | (simp; done) | (simp [*]; done) | (simp; unfold wrap64; omega) | (congr 1; (try rw [Bool.eq_iff_iff]); simp [List.isEmpty_iff]; done), by repeat (first | exact Drawn0.refl _ | apply Drawn0.step)⟩
              · replace c11 := Bool.eq_false_iff.mpr c11
                subst c11
                have H1 : (some (wrap64 (0 + 1))) = some r := by rw [if_neg (show ¬ (false = true) by decide)] at H; exact H
                clear H
                have H := H1
                clear H1
                obtain rfl := Option.some.inj H
                go_wp2_with (first | ((with_reducible refine gate_callee (f := 45) rfl ?_); refine goesT (some 28) Tryd.func45 #[.string (a0.extract 1 a0.size), .string (⟨#[61]⟩ : ByteArray)] ?_; (with_reducible refine (strings_HasPrefix.calls (a0.extract 1 a0.size) (⟨#[61]⟩ : ByteArray) false _ A10.out).mono ?_); rintro e w' ⟨rfl, ⟨nd, rfl⟩⟩; refine ⟨_, rfl, ?_⟩))
                go_ret
                exact ⟨by first | rfl | (simp; done) | (simp [*]; done) | (simp; unfold wrap64; omega) | (congr 1; (try rw [Bool.eq_iff_iff]); simp [List.isEmpty_iff]; done), by repeat (first | exact Drawn0.refl _ | apply Drawn0.step)⟩
            · rw [if_neg c9] at H
              exact absurd H (by simp)
          · replace c8 := Bool.eq_false_iff.mpr c8
            subst c8
            have H1 : (if (bt a0 0) = 40 then (token_signAt.j1 kj4 a0 0 (bt a0 0) ((bt a0 0) == 40)) else (if (bt a0 0) = 41 then (token_signAt.j1 kj4 a0 0 (bt a0 0) ((bt a0 0) == 41)) else (if (bt a0 0) = 91 then (token_signAt.j1 kj4 a0 0 (bt a0 0) ((bt a0 0) == 91)) else (if (bt a0 0) = 93 then (token_signAt.j1 kj4 a0 0 (bt a0 0) ((bt a0 0) == 93)) else (if (bt a0 0) = 123 then (token_signAt.j1 kj4 a0 0 (bt a0 0) ((bt a0 0) == 123)) else (if (bt a0 0) = 125 then (token_signAt.j1 kj4 a0 0 (bt a0 0) ((bt a0 0) == 125)) else (if (bt a0 0) = 44 then (token_signAt.j1 kj4 a0 0 (bt a0 0) ((bt a0 0) == 44)) else (if (bt a0 0) = 43 then (token_signAt.j1 kj4 a0 0 (bt a0 0) ((bt a0 0) == 43)) else (if (bt a0 0) = 45 then (token_signAt.j1 kj4 a0 0 (bt a0 0) ((bt a0 0) == 45)) else (if (bt a0 0) = 42 then (token_signAt.j1 kj4 a0 0 (bt a0 0) ((bt a0 0) == 42)) else (token_signAt.j1 kj4 a0 0 (bt a0 0) ((bt a0 0) == 61)))))))))))) = some r := by rw [if_neg (show ¬ (false = true) by decide)] at H; exact H
            clear H
            have H := H1
            clear H1
            have HC12 := Aside0.mk H
            clear H
            go_upto_if 12 with (fail)
            go_cut [12] (fun v12 wc => ∃ (kq : Nat) (x12_11 : Bool), v12 = .bool x12_11 ∧ Aside0 (token_signAt.j1 kq a0 0 (bt a0 0) x12_11 = some r) ∧ Aside0 (kq ≤ kj4) ∧ Drawn0 w wc)
            case first =>
              have H := HC12.out
              clear HC12
              by_cases c13 : (bt a0 0) = 40
              · rw [if_pos c13] at H
                have c13b0 : ((bt a0 0) == 40) = true := beq_iff_eq.mpr c13
                have c13b1 : ((bt a0 0) != 40) = false := bne_eq_false_iff_eq.mpr c13
                clear c13
                (first | rw [c13b0] | (simp only [i64_w, i32_w, IntKind.wrap_u8, IntKind.wrap_u16, IntKind.wrap_u32]; rw [c13b0]) | skip)
                have H' := Aside0.mk H
                clear H
                go_wp2
                go_meet
                case rel => exact ⟨_, (((bt a0 0) == 40)), (by first | rfl | (simp; done) | (simp [*]; done) | (simp; unfold wrap64; omega) | (congr 1; (try rw [Bool.eq_iff_iff]); simp [List.isEmpty_iff]; done)), H', ⟨by have := HJ4.out; first | omega | exact Nat.le_refl _⟩, by repeat (first | exact Drawn0.refl _ | apply Drawn0.step)⟩
              · rw [if_neg c13] at H
                have c13b0 : ((bt a0 0) == 40) = false := beq_eq_false_iff_ne.mpr c13
                have c13b1 : ((bt a0 0) != 40) = true := bne_iff_ne.mpr c13
                (first | rw [c13b0] | (simp only [i64_w, i32_w, IntKind.wrap_u8, IntKind.wrap_u16, IntKind.wrap_u32]; rw [c13b0]) | skip)
                by_cases c14 : (bt a0 0) = 41
                · rw [if_pos c14] at H
                  have c14b0 : ((bt a0 0) == 41) = true := beq_iff_eq.mpr c14
                  have c14b1 : ((bt a0 0) != 41) = false := bne_eq_false_iff_eq.mpr c14
                  clear c14
                  have H' := Aside0.mk H
                  clear H
                  go_wp2
                  go_meet
                  case rel => exact ⟨_, (((bt a0 0) == 41)), (by first | rfl | (simp; done) | (simp [*]; done) | (simp; unfold wrap64; omega) | (congr 1; (try rw [Bool.eq_iff_iff]); simp [List.isEmpty_iff]; done)), H', ⟨by have := HJ4.out; first | omega | exact Nat.le_refl _⟩, by repeat (first | exact Drawn0.refl _ | apply Drawn0.step)⟩
                · rw [if_neg c14] at H
                  have c14b0 : ((bt a0 0) == 41) = false := beq_eq_false_iff_ne.mpr c14
                  have c14b1 : ((bt a0 0) != 41) = true := bne_iff_ne.mpr c14
                  by_cases c15 : (bt a0 0) = 91
                  · rw [if_pos c15] at H
                    have c15b0 : ((bt a0 0) == 91) = true := beq_iff_eq.mpr c15
                    have c15b1 : ((bt a0 0) != 91) = false := bne_eq_false_iff_eq.mpr c15
                    clear c15
                    have H' := Aside0.mk H
                    clear H
                    go_wp2
                    go_meet
                    case rel => exact ⟨_, (((bt a0 0) == 91)), (by first | rfl | (simp; done) | (simp [*]; done) | (simp; unfold wrap64; omega) | (congr 1; (try rw [Bool.eq_iff_iff]); simp [List.isEmpty_iff]; done)), H', ⟨by have := HJ4.out; first | omega | exact Nat.le_refl _⟩, by repeat (first | exact Drawn0.refl _ | apply Drawn0.step)⟩
                  · rw [if_neg c15] at H
                    have c15b0 : ((bt a0 0) == 91) = false := beq_eq_false_iff_ne.mpr c15
                    have c15b1 : ((bt a0 0) != 91) = true := bne_iff_ne.mpr c15
                    by_cases c16 : (bt a0 0) = 93
                    · rw [if_pos c16] at H
                      have c16b0 : ((bt a0 0) == 93) = true := beq_iff_eq.mpr c16
                      have c16b1 : ((bt a0 0) != 93) = false := bne_eq_false_iff_eq.mpr c16
                      clear c16
                      have H' := Aside0.mk H
                      clear H
                      go_wp2
                      go_meet
                      case rel => exact ⟨_, (((bt a0 0) == 93)), (by first | rfl | (simp; done) | (simp [*]; done) | (simp; unfold wrap64; omega) | (congr 1; (try rw [Bool.eq_iff_iff]); simp [List.isEmpty_iff]; done)), H', ⟨by have := HJ4.out; first | omega | exact Nat.le_refl _⟩, by repeat (first | exact Drawn0.refl _ | apply Drawn0.step)⟩
                    · rw [if_neg c16] at H
                      have c16b0 : ((bt a0 0) == 93) = false := beq_eq_false_iff_ne.mpr c16
                      have c16b1 : ((bt a0 0) != 93) = true := bne_iff_ne.mpr c16
                      by_cases c17 : (bt a0 0) = 123
                      · rw [if_pos c17] at H
                        have c17b0 : ((bt a0 0) == 123) = true := beq_iff_eq.mpr c17
                        have c17b1 : ((bt a0 0) != 123) = false := bne_eq_false_iff_eq.mpr c17
                        clear c17
                        have H' := Aside0.mk H
                        clear H
                        go_wp2
                        go_meet
                        case rel => exact ⟨_, (((bt a0 0) == 123)), (by first | rfl | (simp; done) | (simp [*]; done) | (simp; unfold wrap64; omega) | (congr 1; (try rw [Bool.eq_iff_iff]); simp [List.isEmpty_iff]; done)), H', ⟨by have := HJ4.out; first | omega | exact Nat.le_refl _⟩, by repeat (first | exact Drawn0.refl _ | apply Drawn0.step)⟩
                      · rw [if_neg c17] at H
                        have c17b0 : ((bt a0 0) == 123) = false := beq_eq_false_iff_ne.mpr c17
                        have c17b1 : ((bt a0 0) != 123) = true := bne_iff_ne.mpr c17
                        by_cases c18 : (bt a0 0) = 125
                        · rw [if_pos c18] at H
                          have c18b0 : ((bt a0 0) == 125) = true := beq_iff_eq.mpr c18
                          have c18b1 : ((bt a0 0) != 125) = false := bne_eq_false_iff_eq.mpr c18
                          clear c18
                          have H' := Aside0.mk H
                          clear H
                          go_wp2
                          go_meet
                          case rel => exact ⟨_, (((bt a0 0) == 125)), (by first | rfl | (simp; done) | (simp [*]; done) | (simp; unfold wrap64; omega) | (congr 1; (try rw [Bool.eq_iff_iff]); simp [List.isEmpty_iff]; done)), H', ⟨by have := HJ4.out; first | omega | exact Nat.le_refl _⟩, by repeat (first | exact Drawn0.refl _ | apply Drawn0.step)⟩
                        · rw [if_neg c18] at H
                          have c18b0 : ((bt a0 0) == 125) = false := beq_eq_false_iff_ne.mpr c18
                          have c18b1 : ((bt a0 0) != 125) = true := bne_iff_ne.mpr c18
                          by_cases c19 : (bt a0 0) = 44
                          · rw [if_pos c19] at H
                            have c19b0 : ((bt a0 0) == 44) = true := beq_iff_eq.mpr c19
                            have c19b1 : ((bt a0 0) != 44) = false := bne_eq_false_iff_eq.mpr c19
                            clear c19
                            have H' := Aside0.mk H
                            clear H
                            go_wp2
                            go_meet
                            case rel => exact ⟨_, (((bt a0 0) == 44)), (by first | rfl | (simp; done) | (simp [*]; done) | (simp; unfold wrap64; omega) | (congr 1; (try rw [Bool.eq_iff_iff]); simp [List.isEmpty_iff]; done)), H', ⟨by have := HJ4.out; first | omega | exact Nat.le_refl _⟩, by repeat (first | exact Drawn0.refl _ | apply Drawn0.step)⟩
                          · rw [if_neg c19] at H
                            have c19b0 : ((bt a0 0) == 44) = false := beq_eq_false_iff_ne.mpr c19
                            have c19b1 : ((bt a0 0) != 44) = true := bne_iff_ne.mpr c19
                            by_cases c20 : (bt a0 0) = 43
                            · rw [if_pos c20] at H
                              have c20b0 : ((bt a0 0) == 43) = true := beq_iff_eq.mpr c20
                              have c20b1 : ((bt a0 0) != 43) = false := bne_eq_false_iff_eq.mpr c20
                              clear c20
                              have H' := Aside0.mk H
                              clear H
                              go_wp2
                              go_meet
                              case rel => exact ⟨_, (((bt a0 0) == 43)), (by first | rfl | (simp; done) | (simp [*]; done) | (simp; unfold wrap64; omega) | (congr 1; (try rw [Bool.eq_iff_iff]); simp [List.isEmpty_iff]; done)), H', ⟨by have := HJ4.out; first | omega | exact Nat.le_refl _⟩, by repeat (first | exact Drawn0.refl _ | apply Drawn0.step)⟩
                            · rw [if_neg c20] at H
                              have c20b0 : ((bt a0 0) == 43) = false := beq_eq_false_iff_ne.mpr c20
                              have c20b1 : ((bt a0 0) != 43) = true := bne_iff_ne.mpr c20
                              by_cases c21 : (bt a0 0) = 45
                              · rw [if_pos c21] at H
                                have c21b0 : ((bt a0 0) == 45) = true := beq_iff_eq.mpr c21
                                have c21b1 : ((bt a0 0) != 45) = false := bne_eq_false_iff_eq.mpr c21
                                clear c21
                                have H' := Aside0.mk H
                                clear H
                                go_wp2
                                go_meet
                                case rel => exact ⟨_, (((bt a0 0) == 45)), (by first | rfl | (simp; done) | (simp [*]; done) | (simp; unfold wrap64; omega) | (congr 1; (try rw [Bool.eq_iff_iff]); simp [List.isEmpty_iff]; done)), H', ⟨by have := HJ4.out; first | omega | exact Nat.le_refl _⟩, by repeat (first | exact Drawn0.refl _ | apply Drawn0.step)⟩
                              · rw [if_neg c21] at H
                                have c21b0 : ((bt a0 0) == 45) = false := beq_eq_false_iff_ne.mpr c21
                                have c21b1 : ((bt a0 0) != 45) = true := bne_iff_ne.mpr c21
                                by_cases c22 : (bt a0 0) = 42
                                · rw [if_pos c22] at H
                                  have c22b0 : ((bt a0 0) == 42) = true := beq_iff_eq.mpr c22
                                  have c22b1 : ((bt a0 0) != 42) = false := bne_eq_false_iff_eq.mpr c22
                                  clear c22
                                  have H' := Aside0.mk H
                                  clear H
                                  go_wp2
                                  go_meet
                                  case rel => exact ⟨_, (((bt a0 0) == 42)), (by first | rfl | (simp; done) | (simp [*]; done) | (simp; unfold wrap64; omega) | (congr 1; (try rw [Bool.eq_iff_iff]); simp [List.isEmpty_iff]; done)), H', ⟨by have := HJ4.out; first | omega | exact Nat.le_refl _⟩, by repeat (first | exact Drawn0.refl _ | apply Drawn0.step)⟩
                                · rw [if_neg c22] at H
                                  have c22b0 : ((bt a0 0) == 42) = false := beq_eq_false_iff_ne.mpr c22
                                  have c22b1 : ((bt a0 0) != 42) = true := bne_iff_ne.mpr c22
                                  have H' := Aside0.mk H
                                  clear H
                                  go_wp2
                                  go_meet
                                  case rel => exact ⟨_, (((bt a0 0) == 61)), (by first | rfl | (simp; done) | (simp [*]; done) | (simp; unfold wrap64; omega) | (congr 1; (try rw [Bool.eq_iff_iff]); simp [List.isEmpty_iff]; done)), H', ⟨by have := HJ4.out; first | omega | exact Nat.le_refl _⟩, by repeat (first | exact Drawn0.refl _ | apply Drawn0.step)⟩
            case rest =>
              clear HC12
              try clear c1
              try clear c2
              try clear c2b0
              try clear c2b1
              try clear p2
              try clear c3
              try clear c3b0
              try clear c3b1
              try clear c4
              try clear p4
              try clear q4
              try clear hx4
              try clear qi4
              try clear c5
              try clear c6
              try clear c6b0
              try clear c6b1
              try clear p6
              try clear c7
              try clear c7b0
              try clear c7b1
              try clear c8
              try clear c9
              try clear c9b0
              try clear c9b1
              try clear c11
              try clear c13
              try clear c13b0
              try clear c13b1
              try clear c14
              try clear c14b0
              try clear c14b1
              try clear c15
              try clear c15b0
              try clear c15b1
              try clear c16
              try clear c16b0
              try clear c16b1
              try clear c17
              try clear c17b0
              try clear c17b1
              try clear c18
              try clear c18b0
              try clear c18b1
              try clear c19
              try clear c19b0
              try clear c19b1
              try clear c20
              try clear c20b0
              try clear c20b1
              try clear c21
              try clear c21b0
              try clear c21b1
              try clear c22
              try clear c22b0
              try clear c22b1
              try clear p2
              try clear p4
              try clear q4
              obtain ⟨kq, x12_11, rfl, HA, HJ11, ⟨mc11, rfl⟩⟩ := hcut
              cases kq with
              | zero => (have HA2 := HA.out; clear HA; revert HA2; rw [token_signAt.j1_zero]; intro h_; cases h_)
              | succ kj11 =>
                have H := HA.out
                clear HA
                simp only [token_signAt.j1] at H
                by_cases c23 : x12_11 = true
                · subst c23
                  have H1 : (some (wrap64 (0 + 1))) = some r := by rw [if_pos rfl] at H; exact H
                  clear H
                  have H := H1
                  clear H1
                  obtain rfl := Option.some.inj H
                  go_wp2
                  go_ret
                  exact ⟨by first | rfl | (simp; done) | (simp [*]; done) | (simp; unfold wrap64; omega) | (congr 1; (try rw [Bool.eq_iff_iff]); simp [List.isEmpty_iff]; done), by repeat (first | exact Drawn0.refl _ | apply Drawn0.step)⟩
                · replace c23 := Bool.eq_false_iff.mpr c23
                  subst c23
                  have H1 : (if (bt a0 0) = 46 then (if 1 ≤ (a0.size : Int) then ((strings_HasPrefix.f (a0.extract 1 a0.size) (⟨#[46]⟩ : ByteArray)).bind fun t190 => (if t190 = true then (some 2) else (some 1))) else (none)) else (some 0)) = some r := by rw [if_neg (show ¬ (false = true) by decide)] at H; exact H
                  clear H
                  have H := H1
                  clear H1
                  by_cases c24 : (bt a0 0) = 46
                  · rw [if_pos c24] at H
                    have c24b0 : ((bt a0 0) == 46) = true := beq_iff_eq.mpr c24
                    have c24b1 : ((bt a0 0) != 46) = false := bne_eq_false_iff_eq.mpr c24
                    clear c24
                    by_cases c25 : 1 ≤ (a0.size : Int)
                    · rw [if_pos c25] at H
                      have c25b0 := eq_true c25
                      have c25b1 : decide (1 ≤ (a0.size : Int)) = true := decide_eq_true c25
                      clear c25
                      replace H := Option.bind_eq_some_iff.mp H
                      obtain ⟨t190, A260, H⟩ := H
                      replace H : (if t190 = true then (some 2) else (some 1)) = some r := H
                      have A26 := Aside0.mk A260
                      clear A260
                      by_cases c27 : t190 = true
                      · subst c27
                        have H1 : (some 2) = some r := by rw [if_pos rfl] at H; exact H
                        clear H
                        have H := H1
                        clear H1
                        obtain rfl := Option.some.inj H
                        go_wp2_with (first | ((with_reducible refine gate_callee (f := 45) rfl ?_); refine goesT (some 35) Tryd.func45 #[.string (a0.extract 1 a0.size), .string (⟨#[46]⟩ : ByteArray)] ?_; (with_reducible refine (strings_HasPrefix.calls (a0.extract 1 a0.size) (⟨#[46]⟩ : ByteArray) true _ A26.out).mono ?_); rintro e w' ⟨rfl, ⟨nd, rfl⟩⟩; refine ⟨_, rfl, ?_⟩))
                        go_ret
                        exact ⟨by first | rfl | (simp; done) | (simp [*]; done) | (simp; unfold wrap64; omega) | (congr 1; (try rw [Bool.eq_iff_iff]); simp [List.isEmpty_iff]; done), by repeat (first | exact Drawn0.refl _ | apply Drawn0.step)⟩
                      · replace c27 := Bool.eq_false_iff.mpr c27
                        subst c27
                        have H1 : (some 1) = some r := by rw [if_neg (show ¬ (false = true) by decide)] at H; exact H
                        clear H
                        have H := H1
                        clear H1
                        obtain rfl := Option.some.inj H
                        go_wp2_with (first | ((with_reducible refine gate_callee (f := 45) rfl ?_); refine goesT (some 35) Tryd.func45 #[.string (a0.extract 1 a0.size), .string (⟨#[46]⟩ : ByteArray)] ?_; (with_reducible refine (strings_HasPrefix.calls (a0.extract 1 a0.size) (⟨#[46]⟩ : ByteArray) false _ A26.out).mono ?_); rintro e w' ⟨rfl, ⟨nd, rfl⟩⟩; refine ⟨_, rfl, ?_⟩))
                        go_ret
                        exact ⟨by first | rfl | (simp; done) | (simp [*]; done) | (simp; unfold wrap64; omega) | (congr 1; (try rw [Bool.eq_iff_iff]); simp [List.isEmpty_iff]; done), by repeat (first | exact Drawn0.refl _ | apply Drawn0.step)⟩
                    · rw [if_neg c25] at H
                      exact absurd H (by simp)
                  · rw [if_neg c24] at H
                    have c24b0 : ((bt a0 0) == 46) = false := beq_eq_false_iff_ne.mpr c24
                    have c24b1 : ((bt a0 0) != 46) = true := bne_iff_ne.mpr c24
                    obtain rfl := Option.some.inj H
                    go_wp2
                    go_ret
                    exact ⟨by first | rfl | (simp; done) | (simp [*]; done) | (simp; unfold wrap64; omega) | (congr 1; (try rw [Bool.eq_iff_iff]); simp [List.isEmpty_iff]; done), by repeat (first | exact Drawn0.refl _ | apply Drawn0.step)⟩
    · rw [if_neg c3] at H
      exact absurd H (by simp)

end Go.Proofs.YthmcapdakplhdaaDoor.Pr

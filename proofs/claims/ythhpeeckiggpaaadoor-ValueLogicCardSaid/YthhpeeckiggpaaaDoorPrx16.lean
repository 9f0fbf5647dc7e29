-- printed by a patched copy of the kit's print, for this seat
import Derived.Test.YthhpeeckiggpaaaDoorPrx0
import Derived.Test.YthhpeeckiggpaaaDoorPrx2
import Derived.Test.YthhpeeckiggpaaaDoorPrx6
namespace Go.Proofs.YthhpeeckiggpaaaDoor.Pr
open Go.RowKit Go.Proofs.YthhpeeckiggpaaaDoorW.PrintWords Go.Proofs.YthhpeeckiggpaaaDoorW.PrintLast Go.Proofs.YthhpeeckiggpaaaDoorW.PrintMore
attribute [local go_sem] max2_int min2_int max_two min_two max_three min_three max_four min_four   -- for this text's walks alone
attribute [local go_sem high] Go.Proofs.YthhpeeckiggpaaaDoor.isSome_setCell
set_option maxRecDepth 100000
set_option linter.unusedVariables false
set_option linter.unusedSimpArgs false

/-! ### refrainref1_sign: function 43 -/
def refrainref1_sign.f (a0 : Int) (a1 : Int) : Option (Int) := if a0 < a1 then (some (-1)) else (if a0 > a1 then (some 1) else (some 0))
set_option maxHeartbeats 8000000 in
set_option maxRecDepth 100000 in
theorem refrainref1_sign.calls (a0 : Int) (a1 : Int) (r : Int) (w : World) (h : refrainref1_sign.f a0 a1 = some r) :
    Calls Tryd.prog 43 #[.int .i64 a0, .int .i64 a1] w fun e w' => e = .returned (.int .i64 r) ∧ Drawn0 w w' := by
  have H : (if a0 < a1 then (some (-1)) else (if a0 > a1 then (some 1) else (some 0))) = some r := h
  clear h
  by_cases c3 : a0 < a1
  · rw [if_pos c3] at H
    have c3b0 : decide (a0 < a1) = true := decide_eq_true c3
    clear c3
    obtain rfl := Option.some.inj H
    go_enter Tryd.func43, Tryd.ntmps43
    go_wp2
    go_ret
    exact ⟨by first | rfl | (simp; done) | (simp [*]; done) | (simp; unfold wrap64; omega) | (congr 1; (try rw [Bool.eq_iff_iff]); simp [List.isEmpty_iff]; done), by repeat (first | exact Drawn0.refl _ | apply Drawn0.step)⟩
  · rw [if_neg c3] at H
    have c3b0 : decide (a0 < a1) = false := decide_eq_false c3
    clear c3
    by_cases c4 : a0 > a1
    · rw [if_pos c4] at H
      have c4b0 : decide (a1 < a0) = true := decide_eq_true c4
      clear c4
      obtain rfl := Option.some.inj H
      go_enter Tryd.func43, Tryd.ntmps43
      go_wp2
      go_ret
      exact ⟨by first | rfl | (simp; done) | (simp [*]; done) | (simp; unfold wrap64; omega) | (congr 1; (try rw [Bool.eq_iff_iff]); simp [List.isEmpty_iff]; done), by repeat (first | exact Drawn0.refl _ | apply Drawn0.step)⟩
    · rw [if_neg c4] at H
      have c4b0 : decide (a1 < a0) = false := decide_eq_false c4
      clear c4
      obtain rfl := Option.some.inj H
      go_enter Tryd.func43, Tryd.ntmps43
      go_wp2
      go_ret
      exact ⟨by first | rfl | (simp; done) | (simp [*]; done) | (simp; unfold wrap64; omega) | (congr 1; (try rw [Bool.eq_iff_iff]); simp [List.isEmpty_iff]; done), by repeat (first | exact Drawn0.refl _ | apply Drawn0.step)⟩

/-! ### refrainref1_below: function 44 -/
mutual
def refrainref1_below.l0 : Nat → ByteArray → ByteArray → Int → Option (Int)
  | 0, _, _, _ => none
  | k + 1, x0, x1, x5 => if x5 < (x0.size : Int) then (refrainref1_below.j1 k x0 x1 x5 (decide (x5 < (x1.size : Int)))) else (refrainref1_below.j1 k x0 x1 x5 false)
def refrainref1_below.j1 : Nat → ByteArray → ByteArray → Int → Bool → Option (Int)
  | 0, _, _, _, _ => none
  | k + 1, x0, x1, x5, x15 => if x15 = true then (if 0 ≤ x5 then (if x5 < (x0.size : Int) then (if x5 < (x1.size : Int) then (if (bt x0 x5) < (bt x1 x5) then (some (-1)) else (if (bt x0 x5) > (bt x1 x5) then (some 1) else (refrainref1_below.l0 k x0 x1 (wrap64 (x5 + 1))))) else (none)) else (none)) else (none)) else ((refrainref1_sign.f (x0.size : Int) (x1.size : Int)).bind fun t394 => (some t394))
end
def refrainref1_below.f (k : Nat) (a0 : ByteArray) (a1 : ByteArray) : Option (Int) := refrainref1_below.l0 k a0 a1 0
set_option maxRecDepth 100000 in
theorem refrainref1_below.l0_zero : ∀ y0 y1 y2, refrainref1_below.l0 0 y0 y1 y2 = none := fun _ _ _ => rfl
set_option maxRecDepth 100000 in
theorem refrainref1_below.j1_zero : ∀ y0 y1 y2 y3, refrainref1_below.j1 0 y0 y1 y2 y3 = none := fun _ _ _ _ => rfl
set_option maxRecDepth 100000 in
theorem refrainref1_below.mono_l : ∀ k, (∀ y0 y1 y2, LeO (refrainref1_below.l0 k y0 y1 y2) (refrainref1_below.l0 (k + 1) y0 y1 y2)) ∧ (∀ y0 y1 y2 y3, LeO (refrainref1_below.j1 k y0 y1 y2 y3) (refrainref1_below.j1 (k + 1) y0 y1 y2 y3))
  | 0 => ⟨fun _ _ _ r h => by (unfold refrainref1_below.l0 at h; cases h), fun _ _ _ _ r h => by (unfold refrainref1_below.j1 at h; cases h)⟩
  | k + 1 => by
    obtain ⟨ih0, ih1⟩ := refrainref1_below.mono_l k
    refine ⟨?_, ?_⟩
    · intro y0 y1 y2
      unfold refrainref1_below.l0
      repeat' first
      | (with_reducible exact ih0 _ _ _)
      | (with_reducible exact ih1 _ _ _ _)
      | (with_reducible exact LeO.refl _)
      | (with_reducible exact LeO.none _)
      | (with_reducible refine LeO.ite ?_ ?_)
      | (with_reducible refine LeO.bind ?_ (fun _ => ?_))
      | exact ih0 _ _ _
      | exact ih1 _ _ _ _
      | exact LeO.none _
      | refine LeO.ite ?_ ?_
      | refine LeO.bind ?_ (fun _ => ?_)
    · intro y0 y1 y2 y3
      unfold refrainref1_below.j1
      repeat' first
      | (with_reducible exact ih0 _ _ _)
      | (with_reducible exact ih1 _ _ _ _)
      | (with_reducible exact LeO.refl _)
      | (with_reducible exact LeO.none _)
      | (with_reducible refine LeO.ite ?_ ?_)
      | (with_reducible refine LeO.bind ?_ (fun _ => ?_))
      | exact ih0 _ _ _
      | exact ih1 _ _ _ _
      | exact LeO.none _
      | refine LeO.ite ?_ ?_
      | refine LeO.bind ?_ (fun _ => ?_)
set_option maxRecDepth 100000 in
theorem refrainref1_below.mono : ∀ a0 a1 k, LeO (refrainref1_below.f k a0 a1) (refrainref1_below.f (k + 1) a0 a1) := by
  intro a0 a1 k
  obtain ⟨ih0, ih1⟩ := refrainref1_below.mono_l k
  unfold refrainref1_below.f
  repeat' first
      | (with_reducible exact ih0 _ _ _)
      | (with_reducible exact ih1 _ _ _ _)
      | (with_reducible exact LeO.refl _)
      | (with_reducible exact LeO.none _)
      | (with_reducible refine LeO.ite ?_ ?_)
      | (with_reducible refine LeO.bind ?_ (fun _ => ?_))
      | exact ih0 _ _ _
      | exact ih1 _ _ _ _
      | exact LeO.none _
      | refine LeO.ite ?_ ?_
      | refine LeO.bind ?_ (fun _ => ?_)
set_option maxHeartbeats 8000000 in
set_option maxRecDepth 100000 in
theorem refrainref1_below.calls (k : Nat) (a0 : ByteArray) (a1 : ByteArray) (r : Int) (w : World) (h : refrainref1_below.f k a0 a1 = some r) :
    Calls Tryd.prog 44 #[.string a0, .string a1] w fun e w' => e = .returned (.int .i64 r) ∧ Drawn0 w w' := by
  have H : (refrainref1_below.l0 k a0 a1 0) = some r := h
  clear h
  have H' := Aside0.mk H
  clear H
  go_enter Tryd.func44, Tryd.ntmps44
  go_wp2
  repeat (go_quiet (fail); try go_wp2)
  go_loopg [5] k (fun kq v5 w' => ∃ (x5_1 : Int), v5 = .int .i64 x5_1 ∧ Aside0 (refrainref1_below.l0 kq a0 a1 x5_1 = some r) ∧ Aside0 (kq ≤ k) ∧ Drawn0 w w')
  case atStart => exact ⟨(0), (by first | rfl | (simp; done) | (simp [*]; done) | (simp; unfold wrap64; omega) | (congr 1; (try rw [Bool.eq_iff_iff]); simp [List.isEmpty_iff]; done)), H', ⟨Nat.le_refl _⟩, by repeat (first | exact Drawn0.refl _ | apply Drawn0.step)⟩
  case round =>
    clear H'
    try clear p2
    obtain ⟨x5_1, rfl, HA, HK1, ⟨m1, rfl⟩⟩ := hrel
    cases gk with
    | zero => (have HA2 := HA.out; clear HA; revert HA2; rw [refrainref1_below.l0_zero]; intro h_; cases h_)
    | succ k1 =>
      have H := HA.out
      clear HA
      simp only [refrainref1_below.l0] at H
      have HC3 := Aside0.mk H
      clear H
      go_upto_region 2 with (fail)
      repeat (go_quiet (fail); go_upto_region 2 with (fail))
      go_cut [15] (fun v15 wc => ∃ (kq : Nat) (x15_2 : Bool), v15 = .bool x15_2 ∧ Aside0 (refrainref1_below.j1 kq a0 a1 x5_1 x15_2 = some r) ∧ Aside0 (kq ≤ k1) ∧ Drawn0 w wc)
      case first =>
        have H := HC3.out
        clear HC3
        by_cases c4 : x5_1 < (a0.size : Int)
        · rw [if_pos c4] at H
          have c4b0 : decide (x5_1 < (a0.size : Int)) = true := decide_eq_true c4
          clear c4
          (first | rw [c4b0] | (simp only [i64_w, i32_w, IntKind.wrap_u8, IntKind.wrap_u16, IntKind.wrap_u32]; rw [c4b0]) | skip)
          have H' := Aside0.mk H
          clear H
          go_wp2
          repeat (go_quiet (fail); try go_wp2)
          go_meet
          case rel => exact ⟨_, (decide (x5_1 < (a1.size : Int))), (by first | rfl | (simp; done) | (simp [*]; done) | (simp; unfold wrap64; omega) | (congr 1; (try rw [Bool.eq_iff_iff]); simp [List.isEmpty_iff]; done)), H', ⟨by have := HK1.out; first | omega | exact Nat.le_refl _⟩, by repeat (first | exact Drawn0.refl _ | apply Drawn0.step)⟩
        · rw [if_neg c4] at H
          have c4b0 : decide (x5_1 < (a0.size : Int)) = false := decide_eq_false c4
          clear c4
          (first | rw [c4b0] | (simp only [i64_w, i32_w, IntKind.wrap_u8, IntKind.wrap_u16, IntKind.wrap_u32]; rw [c4b0]) | skip)
          have H' := Aside0.mk H
          clear H
          go_wp2
          repeat (go_quiet (fail); try go_wp2)
          go_meet
          case rel => exact ⟨_, (false), (by first | rfl | (simp; done) | (simp [*]; done) | (simp; unfold wrap64; omega) | (congr 1; (try rw [Bool.eq_iff_iff]); simp [List.isEmpty_iff]; done)), H', ⟨by have := HK1.out; first | omega | exact Nat.le_refl _⟩, by repeat (first | exact Drawn0.refl _ | apply Drawn0.step)⟩
      case rest =>
        clear HC3
        try clear p2
        try clear c4
        try clear c4b0
        try clear p2
        obtain ⟨kq, x15_2, rfl, HA, HJ2, ⟨mc2, rfl⟩⟩ := hcut
        cases kq with
        | zero => (have HA2 := HA.out; clear HA; revert HA2; rw [refrainref1_below.j1_zero]; intro h_; cases h_)
        | succ kj2 =>
          have H := HA.out
          clear HA
          simp only [refrainref1_below.j1] at H
          by_cases c5 : x15_2 = true
          · subst c5
            have H1 : (if 0 ≤ x5_1 then (if x5_1 < (a0.size : Int) then (if x5_1 < (a1.size : Int) then (if (bt a0 x5_1) < (bt a1 x5_1) then (some (-1)) else (if (bt a0 x5_1) > (bt a1 x5_1) then (some 1) else (refrainref1_below.l0 kj2 a0 a1 (wrap64 (x5_1 + 1))))) else (none)) else (none)) else (none)) = some r := by rw [if_pos rfl] at H; exact H
            clear H
            have H := H1
            clear H1
            by_cases c6 : 0 ≤ x5_1
            · rw [if_pos c6] at H
              have c6b0 : decide (0 ≤ x5_1) = true := decide_eq_true c6
              clear c6
              by_cases c7 : x5_1 < (a0.size : Int)
              · rw [if_pos c7] at H
                have c7b0 : decide (x5_1 < (a0.size : Int)) = true := decide_eq_true c7
                clear c7
                by_cases c9 : x5_1 < (a1.size : Int)
                · rw [if_pos c9] at H
                  have c9b0 : decide (x5_1 < (a1.size : Int)) = true := decide_eq_true c9
                  clear c9
                  by_cases c11 : (bt a0 x5_1) < (bt a1 x5_1)
                  · rw [if_pos c11] at H
                    have c11b0 : decide ((bt a0 x5_1) < (bt a1 x5_1)) = true := decide_eq_true c11
                    clear c11
                    obtain rfl := Option.some.inj H
                    have p8 : 0 ≤ (x5_1 : Int) := of_decide_eq_true (by first | (with_reducible assumption) | assumption)
                    have q8 : x5_1 < (a0.size : Int) := of_decide_eq_true (by first | (with_reducible assumption) | assumption)
                    have hx8 := bt_at a0 x5_1
                    replace p8 := eq_true p8
                    replace q8 := eq_true q8
                    have p10 : 0 ≤ (x5_1 : Int) := of_decide_eq_true (by first | (with_reducible assumption) | assumption)
                    have q10 : x5_1 < (a1.size : Int) := of_decide_eq_true (by first | (with_reducible assumption) | assumption)
                    have hx10 := bt_at a1 x5_1
                    replace p10 := eq_true p10
                    replace q10 := eq_true q10
                    go_wp2
                    repeat (go_quiet (fail); try go_wp2)
                    go_ret
                    exact ⟨by first | rfl | (simp; done) | (simp [*]; done) | (simp; unfold wrap64; omega) | (congr 1; (try rw [Bool.eq_iff_iff]); simp [List.isEmpty_iff]; done), by repeat (first | exact Drawn0.refl _ | apply Drawn0.step)⟩
                  · rw [if_neg c11] at H
                    have c11b0 : decide ((bt a0 x5_1) < (bt a1 x5_1)) = false := decide_eq_false c11
                    clear c11
                    by_cases c14 : (bt a0 x5_1) > (bt a1 x5_1)
                    · rw [if_pos c14] at H
                      have c14b0 : decide ((bt a1 x5_1) < (bt a0 x5_1)) = true := decide_eq_true c14
                      clear c14
                      obtain rfl := Option.some.inj H
                      have p8 : 0 ≤ (x5_1 : Int) := of_decide_eq_true (by first | (with_reducible assumption) | assumption)
                      have q8 : x5_1 < (a0.size : Int) := of_decide_eq_true (by first | (with_reducible assumption) | assumption)
                      have hx8 := bt_at a0 x5_1
                      replace p8 := eq_true p8
                      replace q8 := eq_true q8
                      have p10 : 0 ≤ (x5_1 : Int) := of_decide_eq_true (by first | (with_reducible assumption) | assumption)
                      have q10 : x5_1 < (a1.size : Int) := of_decide_eq_true (by first | (with_reducible assumption) | assumption)
                      have hx10 := bt_at a1 x5_1
                      replace p10 := eq_true p10
                      replace q10 := eq_true q10
                      have p12 : 0 ≤ (x5_1 : Int) := of_decide_eq_true (by first | (with_reducible assumption) | assumption)
                      have q12 : x5_1 < (a0.size : Int) := of_decide_eq_true (by first | (with_reducible assumption) | assumption)
                      have hx12 := bt_at a0 x5_1
                      replace p12 := eq_true p12
                      replace q12 := eq_true q12
                      have p13 : 0 ≤ (x5_1 : Int) := of_decide_eq_true (by first | (with_reducible assumption) | assumption)
                      have q13 : x5_1 < (a1.size : Int) := of_decide_eq_true (by first | (with_reducible assumption) | assumption)
                      have hx13 := bt_at a1 x5_1
                      replace p13 := eq_true p13
                      replace q13 := eq_true q13
                      go_wp2
                      repeat (go_quiet (fail); try go_wp2)
                      go_ret
                      exact ⟨by first | rfl | (simp; done) | (simp [*]; done) | (simp; unfold wrap64; omega) | (congr 1; (try rw [Bool.eq_iff_iff]); simp [List.isEmpty_iff]; done), by repeat (first | exact Drawn0.refl _ | apply Drawn0.step)⟩
                    · rw [if_neg c14] at H
                      have c14b0 : decide ((bt a1 x5_1) < (bt a0 x5_1)) = false := decide_eq_false c14
                      clear c14
                      have H' := Aside0.mk H
                      clear H
                      have p8 : 0 ≤ (x5_1 : Int) := of_decide_eq_true (by first | (with_reducible assumption) | assumption)
                      have q8 : x5_1 < (a0.size : Int) := of_decide_eq_true (by first | (with_reducible assumption) | assumption)
                      have hx8 := bt_at a0 x5_1
                      replace p8 := eq_true p8
                      replace q8 := eq_true q8
                      have p10 : 0 ≤ (x5_1 : Int) := of_decide_eq_true (by first | (with_reducible assumption) | assumption)
                      have q10 : x5_1 < (a1.size : Int) := of_decide_eq_true (by first | (with_reducible assumption) | assumption)
                      have hx10 := bt_at a1 x5_1
                      replace p10 := eq_true p10
                      replace q10 := eq_true q10
                      have p12 : 0 ≤ (x5_1 : Int) := of_decide_eq_true (by first | (with_reducible assumption) | assumption)
                      have q12 : x5_1 < (a0.size : Int) := of_decide_eq_true (by first | (with_reducible assumption) | assumption)
                      have hx12 := bt_at a0 x5_1
                      replace p12 := eq_true p12
                      replace q12 := eq_true q12
                      have p13 : 0 ≤ (x5_1 : Int) := of_decide_eq_true (by first | (with_reducible assumption) | assumption)
                      have q13 : x5_1 < (a1.size : Int) := of_decide_eq_true (by first | (with_reducible assumption) | assumption)
                      have hx13 := bt_at a1 x5_1
                      replace p13 := eq_true p13
                      replace q13 := eq_true q13
                      go_wp2
                      repeat (go_quiet (fail); try go_wp2)
                      go_roundg kj2
                      case measure => have := HK1.out; have := HJ2.out; omega
                      case rel => exact ⟨(wrap64 (x5_1 + 1)), (by first | rfl | (simp; done) | (simp [*]; done) | (simp; unfold wrap64; omega) | (congr 1; (try rw [Bool.eq_iff_iff]); simp [List.isEmpty_iff]; done)), H', ⟨by have := HK1.out; have := HJ2.out; omega⟩, by repeat (first | exact Drawn0.refl _ | apply Drawn0.step)⟩
                · rw [if_neg c9] at H
                  exact absurd H (by simp)
              · rw [if_neg c7] at H
                exact absurd H (by simp)
            · rw [if_neg c6] at H
              exact absurd H (by simp)
          · replace c5 := Bool.eq_false_iff.mpr c5
            subst c5
            have H1 : ((refrainref1_sign.f (a0.size : Int) (a1.size : Int)).bind fun t394 => (some t394)) = some r := by rw [if_neg (show ¬ (false = true) by decide)] at H; exact H
            clear H
            have H := H1
            clear H1
            replace H := Option.bind_eq_some_iff.mp H
            obtain ⟨t394, A150, H⟩ := H
            replace H : (some t394) = some r := H
            have A15 := Aside0.mk A150
            clear A150
            obtain rfl := Option.some.inj H
            go_wp2_with (first | (go_at_call 43; (with_reducible refine (refrainref1_sign.calls (a0.size : Int) (a1.size : Int) t394 _ A15.out).mono ?_); rintro e w' ⟨rfl, ⟨nd, rfl⟩⟩; (try first | exact ⟨rfl, _, World.drewN_drewN _ _ _⟩ | exact ⟨rfl, _, Eq.trans (World.drewN_drewN _ _ _) (congrArg (World.drewN _) (Nat.add_assoc _ _ _))⟩)))
            repeat (go_quiet (first | (go_at_call 43; (with_reducible refine (refrainref1_sign.calls (a0.size : Int) (a1.size : Int) t394 _ A15.out).mono ?_); rintro e w' ⟨rfl, ⟨nd, rfl⟩⟩; (try first | exact ⟨rfl, _, World.drewN_drewN _ _ _⟩ | exact ⟨rfl, _, Eq.trans (World.drewN_drewN _ _ _) (congrArg (World.drewN _) (Nat.add_assoc _ _ _))⟩))); try go_wp2_with (first | (go_at_call 43; (with_reducible refine (refrainref1_sign.calls (a0.size : Int) (a1.size : Int) t394 _ A15.out).mono ?_); rintro e w' ⟨rfl, ⟨nd, rfl⟩⟩; (try first | exact ⟨rfl, _, World.drewN_drewN _ _ _⟩ | exact ⟨rfl, _, Eq.trans (World.drewN_drewN _ _ _) (congrArg (World.drewN _) (Nat.add_assoc _ _ _))⟩))))
            go_ret
            exact ⟨by first | rfl | (simp; done) | (simp [*]; done) | (simp; unfold wrap64; omega) | (congr 1; (try rw [Bool.eq_iff_iff]); simp [List.isEmpty_iff]; done), by repeat (first | exact Drawn0.refl _ | apply Drawn0.step)⟩

/-! ### refrainref1_Compare: function 19 -/
def refrainref1_Compare.j0 : Nat → Int → Bool → Int → Int → ByteArray → Bool → Option (Int)
  | 0, _, _, _, _, _, _ => none
  | k + 1, x5, x39, x397000, x397001, x397002, x397003 => if x39 = true then (some x5) else (if x397003 = true then (some (-1)) else (some 1))
def refrainref1_Compare.f (k : Nat) (a0_0 : Int) (a0_1 : Int) (a0_2 : ByteArray) (a0_3 : Bool) (a1_0 : Int) (a1_1 : Int) (a1_2 : ByteArray) (a1_3 : Bool) : Option (Int) := if a0_0 = a1_0 then (if a0_1 = a1_1 then ((refrainref1_below.f k a0_2 a1_2).bind fun t399 => (if t399 = 0 then (refrainref1_Compare.j0 k t399 (a0_3 == a1_3) a1_0 a1_1 a1_2 a1_3) else (refrainref1_Compare.j0 k t399 true a1_0 a1_1 a1_2 a1_3))) else ((refrainref1_sign.f a0_1 a1_1).bind fun t398 => (some t398))) else ((refrainref1_sign.f a0_0 a1_0).bind fun t397 => (some t397))
set_option maxRecDepth 100000 in
theorem refrainref1_Compare.j0_zero : ∀ y0 y1 y2 y3 y4 y5, refrainref1_Compare.j0 0 y0 y1 y2 y3 y4 y5 = none := fun _ _ _ _ _ _ => rfl
set_option maxRecDepth 100000 in
theorem refrainref1_Compare.mono_l : ∀ k, (∀ y0 y1 y2 y3 y4 y5, LeO (refrainref1_Compare.j0 k y0 y1 y2 y3 y4 y5) (refrainref1_Compare.j0 (k + 1) y0 y1 y2 y3 y4 y5))
  | 0 => fun _ _ _ _ _ _ r h => by (unfold refrainref1_Compare.j0 at h; cases h)
  | k + 1 => by
    have ih0 := refrainref1_Compare.mono_l k
    · intro y0 y1 y2 y3 y4 y5
      unfold refrainref1_Compare.j0
      repeat' first
      | (with_reducible exact ih0 _ _ _ _ _ _)
      | (with_reducible exact refrainref1_below.mono _ _ _)
      | (with_reducible exact LeO.refl _)
      | (with_reducible exact LeO.none _)
      | (with_reducible refine LeO.ite ?_ ?_)
      | (with_reducible refine LeO.bind ?_ (fun _ => ?_))
      | exact ih0 _ _ _ _ _ _
      | exact refrainref1_below.mono _ _ _
      | exact LeO.none _
      | refine LeO.ite ?_ ?_
      | refine LeO.bind ?_ (fun _ => ?_)
set_option maxRecDepth 100000 in
theorem refrainref1_Compare.mono : ∀ a0 a1 a2 a3 a4 a5 a6 a7 k, LeO (refrainref1_Compare.f k a0 a1 a2 a3 a4 a5 a6 a7) (refrainref1_Compare.f (k + 1) a0 a1 a2 a3 a4 a5 a6 a7) := by
  intro a0 a1 a2 a3 a4 a5 a6 a7 k
  have ih0 := refrainref1_Compare.mono_l k
  unfold refrainref1_Compare.f
  repeat' first
      | (with_reducible exact ih0 _ _ _ _ _ _)
      | (with_reducible exact refrainref1_below.mono _ _ _)
      | (with_reducible exact LeO.refl _)
      | (with_reducible exact LeO.none _)
      | (with_reducible refine LeO.ite ?_ ?_)
      | (with_reducible refine LeO.bind ?_ (fun _ => ?_))
      | exact ih0 _ _ _ _ _ _
      | exact refrainref1_below.mono _ _ _
      | exact LeO.none _
      | refine LeO.ite ?_ ?_
      | refine LeO.bind ?_ (fun _ => ?_)
set_option maxHeartbeats 8000000 in
set_option maxRecDepth 100000 in
theorem refrainref1_Compare.calls (k : Nat) (a0_0 : Int) (a0_1 : Int) (a0_2 : ByteArray) (a0_3 : Bool) (a1_0 : Int) (a1_1 : Int) (a1_2 : ByteArray) (a1_3 : Bool) (r : Int) (w : World) (h : refrainref1_Compare.f k a0_0 a0_1 a0_2 a0_3 a1_0 a1_1 a1_2 a1_3 = some r) :
    Calls Tryd.prog 19 #[.agg #[.int .i64 a0_0, .int .i64 a0_1, .string a0_2, .bool a0_3], .agg #[.int .i64 a1_0, .int .i64 a1_1, .string a1_2, .bool a1_3]] w fun e w' => e = .returned (.int .i64 r) ∧ Below w.heap.size w w' := by
  have hu26 := Tryd.underlying26
  have HB := Aside0.mk (Below.refl w.heap.size w)
  have H : (if a0_0 = a1_0 then (if a0_1 = a1_1 then ((refrainref1_below.f k a0_2 a1_2).bind fun t399 => (if t399 = 0 then (refrainref1_Compare.j0 k t399 (a0_3 == a1_3) a1_0 a1_1 a1_2 a1_3) else (refrainref1_Compare.j0 k t399 true a1_0 a1_1 a1_2 a1_3))) else ((refrainref1_sign.f a0_1 a1_1).bind fun t398 => (some t398))) else ((refrainref1_sign.f a0_0 a1_0).bind fun t397 => (some t397))) = some r := h
  clear h
  by_cases c3 : a0_0 = a1_0
  · rw [if_pos c3] at H
    have c3b0 : (a0_0 == a1_0) = true := beq_iff_eq.mpr c3
    have c3b1 : (a0_0 != a1_0) = false := bne_eq_false_iff_eq.mpr c3
    clear c3
    by_cases c4 : a0_1 = a1_1
    · rw [if_pos c4] at H
      have c4b0 : (a0_1 == a1_1) = true := beq_iff_eq.mpr c4
      have c4b1 : (a0_1 != a1_1) = false := bne_eq_false_iff_eq.mpr c4
      clear c4
      replace H := Option.bind_eq_some_iff.mp H
      obtain ⟨t399, A50, H⟩ := H
      replace H : (if t399 = 0 then (refrainref1_Compare.j0 k t399 (a0_3 == a1_3) a1_0 a1_1 a1_2 a1_3) else (refrainref1_Compare.j0 k t399 true a1_0 a1_1 a1_2 a1_3)) = some r := H
      have A5 := Aside0.mk A50
      clear A50
      have HC6 := Aside0.mk H
      clear H
      go_enter Tryd.func19, Tryd.ntmps19
      go_upto_region 6 with (first | ((with_reducible refine gate_dst (N := 2) rfl ?_); refine box_event ?hg (N := 2) ?hd (cs := #[.int .i64 a0_0, .int .i64 a0_1, .string a0_2, .bool a0_3]) (t := 26) ?hr ?_; (case hd => rfl); (case hg => rfl); (case hr => first | (go_simp; done) | (go_simp; rfl)); intro gb395 hg w7 hbox hb; have BK395 := Aside0.mk hbox; have GW395 := geA hg HB; have GE395 := geA hg HB; replace HB := bsA HB hb; clear hb hbox hg) | ((with_reducible refine gate_dst (N := 3) rfl ?_); refine box_event ?hg (N := 3) ?hd (cs := #[.int .i64 a1_0, .int .i64 a1_1, .string a1_2, .bool a1_3]) (t := 26) ?hr ?_; (case hd => rfl); (case hg => rfl); (case hr => first | (go_simp; done) | (go_simp; rfl)); intro gb396 hg w8 hbox hb; have BK396 := Aside0.mk hbox; have GW396 := geA hg HB; have GE396 := geA hg HB; have NB395_396 := neA hg BK395; have NB396_395 := neB hg BK395; replace BK395 := bbA BK395 hb; replace HB := bsA HB hb; clear hb hbox hg; have hnb9 := NB395_396.out; have hnc9 := NB396_395.out; have hcz10_0 : w8.cell? ⟨gb395, 0, none⟩ = some (.int .i64 a0_0) := (blk_cell BK395.out 0).trans rfl; have hcz10_1 : w8.cell? ⟨gb395, 1, none⟩ = some (.int .i64 a0_1) := (blk_cell BK395.out 1).trans rfl; have hcz10_2 : w8.cell? ⟨gb395, 2, none⟩ = some (.string a0_2) := (blk_cell BK395.out 2).trans rfl; have hcz10_3 : w8.cell? ⟨gb395, 3, none⟩ = some (.bool a0_3) := (blk_cell BK395.out 3).trans rfl; have hfz10_0 := blk_frozen BK395.out 0; have hfz10_1 := blk_frozen BK395.out 1; have hfz10_2 := blk_frozen BK395.out 2; have hfz10_3 := blk_frozen BK395.out 3; have hcz11_0 : w8.cell? ⟨gb396, 0, none⟩ = some (.int .i64 a1_0) := (blk_cell BK396.out 0).trans rfl; have hcz11_1 : w8.cell? ⟨gb396, 1, none⟩ = some (.int .i64 a1_1) := (blk_cell BK396.out 1).trans rfl; have hcz11_2 : w8.cell? ⟨gb396, 2, none⟩ = some (.string a1_2) := (blk_cell BK396.out 2).trans rfl; have hcz11_3 : w8.cell? ⟨gb396, 3, none⟩ = some (.bool a1_3) := (blk_cell BK396.out 3).trans rfl; have hfz11_0 := blk_frozen BK396.out 0; have hfz11_1 := blk_frozen BK396.out 1; have hfz11_2 := blk_frozen BK396.out 2; have hfz11_3 := blk_frozen BK396.out 3) | ((with_reducible refine gate_callee (f := 44) rfl ?_); refine goesT (some 30) Tryd.func44 #[.string a0_2, .string a1_2] ?_; (with_reducible refine (refrainref1_below.calls k a0_2 a1_2 t399 _ A5.out).mono ?_); rintro e w' ⟨rfl, ⟨nd, rfl⟩⟩; refine ⟨_, rfl, ?_⟩))
      (try simp only [Act.put, List.setIfInBounds_toArray, List.set_cons_zero, List.set_cons_succ])
      go_cut [39] (fun v39 wc => ∃ (kq : Nat) (x39_5 : Bool), v39 = .bool x39_5 ∧ Aside0 (refrainref1_Compare.j0 kq t399 x39_5 a1_0 a1_1 a1_2 a1_3 = some r) ∧ Aside0 (kq ≤ k) ∧ Aside0 (wc.heap[gb395]? = some (.cells #[.int .i64 a0_0, .int .i64 a0_1, .string a0_2, .bool a0_3] 26 (0, 0))) ∧ Aside0 (wc.heap[gb396]? = some (.cells #[.int .i64 a1_0, .int .i64 a1_1, .string a1_2, .bool a1_3] 26 (0, 0))) ∧ Aside0 (Below w.heap.size w wc))
      case first =>
        have H := HC6.out
        clear HC6
        by_cases c12 : t399 = 0
        · rw [if_pos c12] at H
          have c12b0 : (t399 == 0) = true := beq_iff_eq.mpr c12
          have c12b1 : (t399 != 0) = false := bne_eq_false_iff_eq.mpr c12
          clear c12
          (first | rw [c12b0] | (simp only [i64_w, i32_w, IntKind.wrap_u8, IntKind.wrap_u16, IntKind.wrap_u32]; rw [c12b0]) | skip)
          have H' := Aside0.mk H
          clear H; have hnb13 := NB395_396.out
          have hnc13 := NB396_395.out; have hcz14_0 : w8.cell? ⟨gb395, 0, none⟩ = some (.int .i64 a0_0) := (blk_cell BK395.out 0).trans rfl; have hcz14_1 : w8.cell? ⟨gb395, 1, none⟩ = some (.int .i64 a0_1) := (blk_cell BK395.out 1).trans rfl; have hcz14_2 : w8.cell? ⟨gb395, 2, none⟩ = some (.string a0_2) := (blk_cell BK395.out 2).trans rfl; have hcz14_3 : w8.cell? ⟨gb395, 3, none⟩ = some (.bool a0_3) := (blk_cell BK395.out 3).trans rfl; have hfz14_0 := blk_frozen BK395.out 0; have hfz14_1 := blk_frozen BK395.out 1; have hfz14_2 := blk_frozen BK395.out 2; have hfz14_3 := blk_frozen BK395.out 3; have hcz15_0 : w8.cell? ⟨gb396, 0, none⟩ = some (.int .i64 a1_0) := (blk_cell BK396.out 0).trans rfl; have hcz15_1 : w8.cell? ⟨gb396, 1, none⟩ = some (.int .i64 a1_1) := (blk_cell BK396.out 1).trans rfl; have hcz15_2 : w8.cell? ⟨gb396, 2, none⟩ = some (.string a1_2) := (blk_cell BK396.out 2).trans rfl; have hcz15_3 : w8.cell? ⟨gb396, 3, none⟩ = some (.bool a1_3) := (blk_cell BK396.out 3).trans rfl; have hfz15_0 := blk_frozen BK396.out 0; have hfz15_1 := blk_frozen BK396.out 1; have hfz15_2 := blk_frozen BK396.out 2; have hfz15_3 := blk_frozen BK396.out 3
          go_wp2
          go_meet
          case rel => exact ⟨_, ((a0_3 == a1_3)), (by first | rfl | (simp; done) | (simp [*]; done) | (simp; unfold wrap64; omega) | (congr 1; (try rw [Bool.eq_iff_iff]); simp [List.isEmpty_iff]; done)), H', ⟨by first | omega | exact Nat.le_refl _⟩, ⟨bkT BK395.out⟩, ⟨bkT BK396.out⟩, ⟨hbT HB.out⟩⟩
        · rw [if_neg c12] at H
          have c12b0 : (t399 == 0) = false := beq_eq_false_iff_ne.mpr c12
          have c12b1 : (t399 != 0) = true := bne_iff_ne.mpr c12
          (first | rw [c12b0] | (simp only [i64_w, i32_w, IntKind.wrap_u8, IntKind.wrap_u16, IntKind.wrap_u32]; rw [c12b0]) | skip)
          have H' := Aside0.mk H
          clear H
          go_wp2
          go_meet
          case rel => exact ⟨_, (true), (by first | rfl | (simp; done) | (simp [*]; done) | (simp; unfold wrap64; omega) | (congr 1; (try rw [Bool.eq_iff_iff]); simp [List.isEmpty_iff]; done)), H', ⟨by first | omega | exact Nat.le_refl _⟩, ⟨bkT BK395.out⟩, ⟨bkT BK396.out⟩, ⟨hbT HB.out⟩⟩
      case rest =>
        clear HC6
        try clear c1
        try clear p2
        try clear c3
        try clear c3b0
        try clear c3b1
        try clear c4
        try clear c4b0
        try clear c4b1
        try clear c9
        try clear c12
        try clear c12b0
        try clear c12b1
        try clear c13
        try clear hcz10_0 hcz10_1 hcz10_2 hcz10_3
        try clear hcz11_0 hcz11_1 hcz11_2 hcz11_3
        try clear hcz14_0 hcz14_1 hcz14_2 hcz14_3
        try clear hcz15_0 hcz15_1 hcz15_2 hcz15_3
        try clear hfz10_0 hfz10_1 hfz10_2 hfz10_3
        try clear hfz11_0 hfz11_1 hfz11_2 hfz11_3
        try clear hfz14_0 hfz14_1 hfz14_2 hfz14_3
        try clear hfz15_0 hfz15_1 hfz15_2 hfz15_3
        obtain ⟨kq, x39_5, rfl, HA, HJ5, BK395, BK396, HB⟩ := hcut
        cases kq with
        | zero => (have HA2 := HA.out; clear HA; revert HA2; rw [refrainref1_Compare.j0_zero]; intro h_; cases h_)
        | succ kj5 =>
          have H := HA.out
          clear HA
          simp only [refrainref1_Compare.j0] at H
          by_cases c16 : x39_5 = true
          · subst c16
            have H1 : (some t399) = some r := by rw [if_pos rfl] at H; exact H
            clear H
            have H := H1
            clear H1
            obtain rfl := Option.some.inj H
            go_wp2
            go_ret
            exact ⟨by first | rfl | (simp [errW_none, errW_some] <;> rfl) | (simp [*, errW_none, errW_some] <;> rfl), hbT HB.out⟩
          · replace c16 := Bool.eq_false_iff.mpr c16
            subst c16
            have H1 : (if a1_3 = true then (some (-1)) else (some 1)) = some r := by rw [if_neg (show ¬ (false = true) by decide)] at H; exact H
            clear H
            have H := H1
            clear H1
            by_cases c17 : a1_3 = true
            · subst c17
              have H1 : (some (-1)) = some r := by rw [if_pos rfl] at H; exact H
              clear H
              have H := H1
              clear H1
              obtain rfl := Option.some.inj H
              have hnb18 := NB396_395.out; have hnc18 := NB395_396.out; have hcz19_0 : wc.cell? ⟨gb396, 0, none⟩ = some (.int .i64 a1_0) := (blk_cell BK396.out 0).trans rfl; have hcz19_1 : wc.cell? ⟨gb396, 1, none⟩ = some (.int .i64 a1_1) := (blk_cell BK396.out 1).trans rfl; have hcz19_2 : wc.cell? ⟨gb396, 2, none⟩ = some (.string a1_2) := (blk_cell BK396.out 2).trans rfl; have hcz19_3 : wc.cell? ⟨gb396, 3, none⟩ = some (.bool true) := (blk_cell BK396.out 3).trans rfl; have hfz19_0 := blk_frozen BK396.out 0; have hfz19_1 := blk_frozen BK396.out 1; have hfz19_2 := blk_frozen BK396.out 2; have hfz19_3 := blk_frozen BK396.out 3
              go_wp2
              go_ret
              exact ⟨by first | rfl | (simp [errW_none, errW_some] <;> rfl) | (simp [*, errW_none, errW_some] <;> rfl), hbT HB.out⟩
            · replace c17 := Bool.eq_false_iff.mpr c17
              subst c17
              have H1 : (some 1) = some r := by rw [if_neg (show ¬ (false = true) by decide)] at H; exact H
              clear H
              have H := H1
              clear H1
              obtain rfl := Option.some.inj H
              have hnb20 := NB396_395.out; have hnc20 := NB395_396.out; have hcz21_0 : wc.cell? ⟨gb396, 0, none⟩ = some (.int .i64 a1_0) := (blk_cell BK396.out 0).trans rfl; have hcz21_1 : wc.cell? ⟨gb396, 1, none⟩ = some (.int .i64 a1_1) := (blk_cell BK396.out 1).trans rfl; have hcz21_2 : wc.cell? ⟨gb396, 2, none⟩ = some (.string a1_2) := (blk_cell BK396.out 2).trans rfl; have hcz21_3 : wc.cell? ⟨gb396, 3, none⟩ = some (.bool false) := (blk_cell BK396.out 3).trans rfl; have hfz21_0 := blk_frozen BK396.out 0; have hfz21_1 := blk_frozen BK396.out 1; have hfz21_2 := blk_frozen BK396.out 2; have hfz21_3 := blk_frozen BK396.out 3
              go_wp2
              go_ret
              exact ⟨by first | rfl | (simp [errW_none, errW_some] <;> rfl) | (simp [*, errW_none, errW_some] <;> rfl), hbT HB.out⟩
    · rw [if_neg c4] at H
      have c4b0 : (a0_1 == a1_1) = false := beq_eq_false_iff_ne.mpr c4
      have c4b1 : (a0_1 != a1_1) = true := bne_iff_ne.mpr c4
      replace H := Option.bind_eq_some_iff.mp H
      obtain ⟨t398, A220, H⟩ := H
      replace H : (some t398) = some r := H
      have A22 := Aside0.mk A220
      clear A220
      obtain rfl := Option.some.inj H
      go_enter Tryd.func19, Tryd.ntmps19
      go_wp2_with (first | ((with_reducible refine gate_dst (N := 2) rfl ?_); refine box_event ?hg (N := 2) ?hd (cs := #[.int .i64 a0_0, .int .i64 a0_1, .string a0_2, .bool a0_3]) (t := 26) ?hr ?_; (case hd => rfl); (case hg => rfl); (case hr => first | (go_simp; done) | (go_simp; rfl)); intro gb395 hg w23 hbox hb; have BK395 := Aside0.mk hbox; have GW395 := geA hg HB; have GE395 := geA hg HB; replace HB := bsA HB hb; clear hb hbox hg) | ((with_reducible refine gate_dst (N := 3) rfl ?_); refine box_event ?hg (N := 3) ?hd (cs := #[.int .i64 a1_0, .int .i64 a1_1, .string a1_2, .bool a1_3]) (t := 26) ?hr ?_; (case hd => rfl); (case hg => rfl); (case hr => first | (go_simp; done) | (go_simp; rfl)); intro gb396 hg w24 hbox hb; have BK396 := Aside0.mk hbox; have GW396 := geA hg HB; have GE396 := geA hg HB; have NB395_396 := neA hg BK395; have NB396_395 := neB hg BK395; replace BK395 := bbA BK395 hb; replace HB := bsA HB hb; clear hb hbox hg; have hnb25 := NB395_396.out; have hnc25 := NB396_395.out; have hcz26_0 : w24.cell? ⟨gb395, 0, none⟩ = some (.int .i64 a0_0) := (blk_cell BK395.out 0).trans rfl; have hcz26_1 : w24.cell? ⟨gb395, 1, none⟩ = some (.int .i64 a0_1) := (blk_cell BK395.out 1).trans rfl; have hcz26_2 : w24.cell? ⟨gb395, 2, none⟩ = some (.string a0_2) := (blk_cell BK395.out 2).trans rfl; have hcz26_3 : w24.cell? ⟨gb395, 3, none⟩ = some (.bool a0_3) := (blk_cell BK395.out 3).trans rfl; have hfz26_0 := blk_frozen BK395.out 0; have hfz26_1 := blk_frozen BK395.out 1; have hfz26_2 := blk_frozen BK395.out 2; have hfz26_3 := blk_frozen BK395.out 3; have hcz27_0 : w24.cell? ⟨gb396, 0, none⟩ = some (.int .i64 a1_0) := (blk_cell BK396.out 0).trans rfl; have hcz27_1 : w24.cell? ⟨gb396, 1, none⟩ = some (.int .i64 a1_1) := (blk_cell BK396.out 1).trans rfl; have hcz27_2 : w24.cell? ⟨gb396, 2, none⟩ = some (.string a1_2) := (blk_cell BK396.out 2).trans rfl; have hcz27_3 : w24.cell? ⟨gb396, 3, none⟩ = some (.bool a1_3) := (blk_cell BK396.out 3).trans rfl; have hfz27_0 := blk_frozen BK396.out 0; have hfz27_1 := blk_frozen BK396.out 1; have hfz27_2 := blk_frozen BK396.out 2; have hfz27_3 := blk_frozen BK396.out 3) | ((with_reducible refine gate_callee (f := 43) rfl ?_); refine goesT (some 25) Tryd.func43 #[.int .i64 a0_1, .int .i64 a1_1] ?_; (with_reducible refine (refrainref1_sign.calls a0_1 a1_1 t398 _ A22.out).mono ?_); rintro e w' ⟨rfl, ⟨nd, rfl⟩⟩; refine ⟨_, rfl, ?_⟩))
      go_ret
      exact ⟨by first | rfl | (simp [errW_none, errW_some] <;> rfl) | (simp [*, errW_none, errW_some] <;> rfl), hbT HB.out⟩
  · rw [if_neg c3] at H
    have c3b0 : (a0_0 == a1_0) = false := beq_eq_false_iff_ne.mpr c3
    have c3b1 : (a0_0 != a1_0) = true := bne_iff_ne.mpr c3
    replace H := Option.bind_eq_some_iff.mp H
    obtain ⟨t397, A280, H⟩ := H
    replace H : (some t397) = some r := H
    have A28 := Aside0.mk A280
    clear A280
    obtain rfl := Option.some.inj H
    go_enter Tryd.func19, Tryd.ntmps19
    go_wp2_with (first | ((with_reducible refine gate_dst (N := 2) rfl ?_); refine box_event ?hg (N := 2) ?hd (cs := #[.int .i64 a0_0, .int .i64 a0_1, .string a0_2, .bool a0_3]) (t := 26) ?hr ?_; (case hd => rfl); (case hg => rfl); (case hr => first | (go_simp; done) | (go_simp; rfl)); intro gb395 hg w29 hbox hb; have BK395 := Aside0.mk hbox; have GW395 := geA hg HB; have GE395 := geA hg HB; replace HB := bsA HB hb; clear hb hbox hg) | ((with_reducible refine gate_dst (N := 3) rfl ?_); refine box_event ?hg (N := 3) ?hd (cs := #[.int .i64 a1_0, .int .i64 a1_1, .string a1_2, .bool a1_3]) (t := 26) ?hr ?_; (case hd => rfl); (case hg => rfl); (case hr => first | (go_simp; done) | (go_simp; rfl)); intro gb396 hg w30 hbox hb; have BK396 := Aside0.mk hbox; have GW396 := geA hg HB; have GE396 := geA hg HB; have NB395_396 := neA hg BK395; have NB396_395 := neB hg BK395; replace BK395 := bbA BK395 hb; replace HB := bsA HB hb; clear hb hbox hg; have hnb31 := NB395_396.out; have hnc31 := NB396_395.out; have hcz32_0 : w30.cell? ⟨gb395, 0, none⟩ = some (.int .i64 a0_0) := (blk_cell BK395.out 0).trans rfl; have hcz32_1 : w30.cell? ⟨gb395, 1, none⟩ = some (.int .i64 a0_1) := (blk_cell BK395.out 1).trans rfl; have hcz32_2 : w30.cell? ⟨gb395, 2, none⟩ = some (.string a0_2) := (blk_cell BK395.out 2).trans rfl; have hcz32_3 : w30.cell? ⟨gb395, 3, none⟩ = some (.bool a0_3) := (blk_cell BK395.out 3).trans rfl; have hfz32_0 := blk_frozen BK395.out 0; have hfz32_1 := blk_frozen BK395.out 1; have hfz32_2 := blk_frozen BK395.out 2; have hfz32_3 := blk_frozen BK395.out 3; have hcz33_0 : w30.cell? ⟨gb396, 0, none⟩ = some (.int .i64 a1_0) := (blk_cell BK396.out 0).trans rfl; have hcz33_1 : w30.cell? ⟨gb396, 1, none⟩ = some (.int .i64 a1_1) := (blk_cell BK396.out 1).trans rfl; have hcz33_2 : w30.cell? ⟨gb396, 2, none⟩ = some (.string a1_2) := (blk_cell BK396.out 2).trans rfl; have hcz33_3 : w30.cell? ⟨gb396, 3, none⟩ = some (.bool a1_3) := (blk_cell BK396.out 3).trans rfl; have hfz33_0 := blk_frozen BK396.out 0; have hfz33_1 := blk_frozen BK396.out 1; have hfz33_2 := blk_frozen BK396.out 2; have hfz33_3 := blk_frozen BK396.out 3) | ((with_reducible refine gate_callee (f := 43) rfl ?_); refine goesT (some 15) Tryd.func43 #[.int .i64 a0_0, .int .i64 a1_0] ?_; (with_reducible refine (refrainref1_sign.calls a0_0 a1_0 t397 _ A28.out).mono ?_); rintro e w' ⟨rfl, ⟨nd, rfl⟩⟩; refine ⟨_, rfl, ?_⟩))
    go_ret
    exact ⟨by first | rfl | (simp [errW_none, errW_some] <;> rfl) | (simp [*, errW_none, errW_some] <;> rfl), hbT HB.out⟩

/-! ### value_Unary: function 22 -/
def value_Unary.f (k : Nat) (a0 : Int) (a1_0 : Int) (a1_1 : Int) (a1_2 : ByteArray) (a1_3 : Bool) : Option (Int × Int × ByteArray × Bool × Int) := (value_refusal.f k a0 1 2 (([(⟨a1_0, a1_1, a1_2, a1_3⟩ : S26)] : List (S26)))).bind fun t405 => (if t405 = 0 then (if a0 = 1 then ((value_number.f (wrap64 (-a1_1))).bind fun bt406 => (some (bt406.1, bt406.2.1, bt406.2.2.1, bt406.2.2.2, 0))) else ((value_truth.f (!a1_3)).bind fun bt410 => (some (bt410.1, bt410.2.1, bt410.2.2.1, bt410.2.2.2, 0)))) else (some (0, 0, (⟨#[]⟩ : ByteArray), false, t405)))
set_option maxRecDepth 100000 in
theorem value_Unary.mono : ∀ a0 a1 a2 a3 a4 k, LeO (value_Unary.f k a0 a1 a2 a3 a4) (value_Unary.f (k + 1) a0 a1 a2 a3 a4) := by
  intro a0 a1 a2 a3 a4 k
  unfold value_Unary.f
  repeat' first
      | (with_reducible exact value_refusal.mono _ _ _ _ _)
      | (with_reducible exact LeO.refl _)
      | (with_reducible exact LeO.none _)
      | (with_reducible refine LeO.ite ?_ ?_)
      | (with_reducible refine LeO.bind ?_ (fun _ => ?_))
      | exact value_refusal.mono _ _ _ _ _
      | exact LeO.none _
      | refine LeO.ite ?_ ?_
      | refine LeO.bind ?_ (fun _ => ?_)
set_option maxHeartbeats 8000000 in
set_option maxRecDepth 100000 in
theorem value_Unary.calls (k : Nat) (a0 : Int) (a1_0 : Int) (a1_1 : Int) (a1_2 : ByteArray) (a1_3 : Bool) (r1 : Int) (r2 : Int) (r3 : ByteArray) (r4 : Bool) (r5 : Int) (w : World) (HL_LG0 : Aside0 (LG0 w)) (h : value_Unary.f k a0 a1_0 a1_1 a1_2 a1_3 = some (r1, r2, r3, r4, r5)) :
    Calls Tryd.prog 22 #[.int .i64 a0, .agg #[.int .i64 a1_0, .int .i64 a1_1, .string a1_2, .bool a1_3]] w fun e w' => e = .returned (.tuple #[.agg #[.int .i64 r1, .int .i64 r2, .string r3, .bool r4], .int .i64 r5]) ∧ Below w.heap.size w w' := by
  have hu26 := Tryd.underlying26
  have HB := Aside0.mk (Below.refl w.heap.size w)
  have H : ((value_refusal.f k a0 1 2 (([(⟨a1_0, a1_1, a1_2, a1_3⟩ : S26)] : List (S26)))).bind fun t405 => (if t405 = 0 then (if a0 = 1 then ((value_number.f (wrap64 (-a1_1))).bind fun bt406 => (some (bt406.1, bt406.2.1, bt406.2.2.1, bt406.2.2.2, 0))) else ((value_truth.f (!a1_3)).bind fun bt410 => (some (bt410.1, bt410.2.1, bt410.2.2.1, bt410.2.2.2, 0)))) else (some (0, 0, (⟨#[]⟩ : ByteArray), false, t405)))) = some (r1, r2, r3, r4, r5) := h
  clear h
  obtain ⟨y402, hy402⟩ : ∃ y_ : List (S26), y_ = (([(⟨a1_0, a1_1, a1_2, a1_3⟩ : S26)] : List (S26))) := ⟨_, rfl⟩
  replace H : ((value_refusal.f k a0 1 2 y402).bind fun t405 => (if t405 = 0 then (if a0 = 1 then ((value_number.f (wrap64 (-a1_1))).bind fun bt406 => (some (bt406.1, bt406.2.1, bt406.2.2.1, bt406.2.2.2, 0))) else ((value_truth.f (!a1_3)).bind fun bt410 => (some (bt410.1, bt410.2.1, bt410.2.2.1, bt410.2.2.2, 0)))) else (some (0, 0, (⟨#[]⟩ : ByteArray), false, t405)))) = some (r1, r2, r3, r4, r5) := by first | (rw [hy402]; with_reducible exact H) | (have H2_ := (Option.bind_some _ _).symm.trans H; rw [hy402]; with_reducible exact H2_) | (have H2_ := (Option.bind_some _ _).symm.trans H; with_reducible exact H2_) | with_reducible exact H | (rw [hy402]; exact H) | exact H
  have Ny402 := Aside0.mk hy402
  clear hy402
  replace H := Option.bind_eq_some_iff.mp H
  obtain ⟨t405, A30, H⟩ := H
  replace H : (if t405 = 0 then (if a0 = 1 then ((value_number.f (wrap64 (-a1_1))).bind fun bt406 => (some (bt406.1, bt406.2.1, bt406.2.2.1, bt406.2.2.2, 0))) else ((value_truth.f (!a1_3)).bind fun bt410 => (some (bt410.1, bt410.2.1, bt410.2.2.1, bt410.2.2.2, 0)))) else (some (0, 0, (⟨#[]⟩ : ByteArray), false, t405))) = some (r1, r2, r3, r4, r5) := H
  have A3 := Aside0.mk A30
  clear A30
  by_cases c4 : t405 = 0
  · rw [if_pos c4] at H
    have c4b0 : (t405 == 0) = true := beq_iff_eq.mpr c4
    have c4b1 : (t405 != 0) = false := bne_eq_false_iff_eq.mpr c4
    clear c4
    by_cases c5 : a0 = 1
    · rw [if_pos c5] at H
      have c5b0 : (a0 == 1) = true := beq_iff_eq.mpr c5
      have c5b1 : (a0 != 1) = false := bne_eq_false_iff_eq.mpr c5
      clear c5
      replace H := Option.bind_eq_some_iff.mp H
      obtain ⟨⟨t406, t407, t408, t409⟩, A60, H⟩ := H
      replace H : (some (t406, t407, t408, t409, 0)) = some (r1, r2, r3, r4, r5) := H
      have A6 := Aside0.mk A60
      clear A60
      simp only [Option.some.injEq, Prod.mk.injEq] at H
      obtain ⟨rfl, rfl, rfl, rfl, rfl⟩ := H
      go_enter Tryd.func22, Tryd.ntmps22
      go_wp2_with (first | ((with_reducible refine gate_dst (N := 3) rfl ?_); refine box_event ?hg (N := 3) ?hd (cs := #[.int .i64 a1_0, .int .i64 a1_1, .string a1_2, .bool a1_3]) (t := 26) ?hr ?_; (case hd => rfl); (case hg => rfl); (case hr => first | (go_simp; done) | (go_simp; rfl)); intro gb400 hg w7 hbox hb; have BK400 := Aside0.mk hbox; have GW400 := geA hg HB; have GE400 := geA hg HB; replace HB := bsA HB hb; clear hb hbox hg) | ((with_reducible refine gate_dst (N := 4) rfl ?_); refine box_event ?hg (N := 4) ?hd (cs := #[.int .i64 0, .int .i64 0, .string (⟨#[]⟩ : ByteArray), .bool false]) (t := 26) ?hr ?_; (case hd => rfl); (case hg => rfl); (case hr => first | (go_simp; done) | (go_simp; rfl)); intro gb401 hg w8 hbox hb; have BK401 := Aside0.mk hbox; have GW401 := geA hg HB; have GE401 := geA hg HB; have NB400_401 := neA hg BK400; have NB401_400 := neB hg BK400; replace BK400 := bbA BK400 hb; replace HB := bsA HB hb; clear hb hbox hg; have hnb9 := NB400_401.out; have hnc9 := NB401_400.out; have hcz10_0 : w8.cell? ⟨gb400, 0, none⟩ = some (.int .i64 a1_0) := (blk_cell BK400.out 0).trans rfl; have hcz10_1 : w8.cell? ⟨gb400, 1, none⟩ = some (.int .i64 a1_1) := (blk_cell BK400.out 1).trans rfl; have hcz10_2 : w8.cell? ⟨gb400, 2, none⟩ = some (.string a1_2) := (blk_cell BK400.out 2).trans rfl; have hcz10_3 : w8.cell? ⟨gb400, 3, none⟩ = some (.bool a1_3) := (blk_cell BK400.out 3).trans rfl; have hfz10_0 := blk_frozen BK400.out 0; have hfz10_1 := blk_frozen BK400.out 1; have hfz10_2 := blk_frozen BK400.out 2; have hfz10_3 := blk_frozen BK400.out 3) | ((with_reducible refine gate_dst (N := 9) rfl ?_); refine Kd.R_lit k26 _ 26 ?hg (N := 9) ?hd (xs := ([(⟨a1_0, a1_1, a1_2, a1_3⟩ : S26)] : List (S26))) (inner := [.int .i64 a1_0, .int .i64 a1_1, .string a1_2, .bool a1_3]) (ok := fun _ => True) (okp := fun _ => True) ?hr ?hp (fun _ hk => hk) trivial (Below.refl _ _) (Nat.le_refl _) (by simp) ?_; (case hd => rfl); (case hg => rfl); (case hr => first | (go_simp; done) | (go_simp; rfl)); (case hp => exact (Reps.c4 (show Kd.M k26 _ _ _ (⟨a1_0, a1_1, a1_2, a1_3⟩ : S26) [.int .i64 a1_0, .int .i64 a1_1, .string a1_2, .bool a1_3] from (k26_mkM _ _ _ (⟨a1_0, a1_1, a1_2, a1_3⟩ : S26) )) (Reps.none _ _))); intro v403 w11 ho12 hb hg_ hnew_; clear hg_ hnew_; (first | rw [← Ny402.out] at ho12 | (simp only [Int.reduceToNat] at ho12; rw [← Ny402.out] at ho12)); have HO404 := Aside0.mk (Kd.R_lower (Kd.R_newB (Kd.R_newB ho12 (g := gb400) (o := .cells #[.int .i64 a1_0, .int .i64 a1_1, .string a1_2, .bool a1_3] 26 (0, 0)) (bkT BK400.out)) (g := gb401) (o := .cells #[.int .i64 0, .int .i64 0, .string (⟨#[]⟩ : ByteArray), .bool false] 26 (0, 0)) (bkT BK401.out)) (below_size (hbT HB.out))); replace BK400 := bbA BK400 hb; replace BK401 := bbA BK401 hb; replace HB := bsA HB hb; clear hb ho12; obtain ⟨Ao13, co13, eo13⟩ := Kd.R_slice HO404.out; subst eo13) | ((with_reducible refine gate_callee (f := 45) rfl ?_); refine goesT (some 10) Tryd.func45 #[.int .i64 a0, .int .i64 1, .int .i64 2, .slice Ao13 y402.length co13] ?_; (with_reducible refine (value_refusal.calls k a0 1 2 _ _ y402 t405 _ ?side1 ?side2 ?side3 A3.out).mono ?_); (case side1 => repeat (first | exact (Kd.R_reads' HO404.out).2.2 | (with_reducible refine Kd.C_alloc ?_ _) | (with_reducible refine Kd.C_drewN ?_ _) | (with_reducible refine Kd.C_drew ?_))); (case side2 => exact (Kd.R_reads' HO404.out).2.1); (case side3 => first | (with_reducible exact HL_LG0) | exact ⟨LG0.below HL_LG0.out (hbT HB.out)⟩); rintro e w14 ⟨rfl, hb⟩; refine ⟨_, rfl, ?_⟩; replace HO404 := Aside0.mk (Kd.R_below (by (with_reducible repeat (first | apply Kd.R_alloc | apply Kd.R_drewN | apply Kd.R_drew)); exact HO404.out) hb); replace BK400 := bbA BK400 hb; replace BK401 := bbA BK401 hb; replace HB := bsA HB hb; (try clear hb); (try clear hb2); (try clear hk); (try clear hi); have hcz15_0 : w14.cell? ⟨gb400, 0, none⟩ = some (.int .i64 a1_0) := (blk_cell BK400.out 0).trans rfl; have hcz15_1 : w14.cell? ⟨gb400, 1, none⟩ = some (.int .i64 a1_1) := (blk_cell BK400.out 1).trans rfl; have hcz15_2 : w14.cell? ⟨gb400, 2, none⟩ = some (.string a1_2) := (blk_cell BK400.out 2).trans rfl; have hcz15_3 : w14.cell? ⟨gb400, 3, none⟩ = some (.bool a1_3) := (blk_cell BK400.out 3).trans rfl; have hfz15_0 := blk_frozen BK400.out 0; have hfz15_1 := blk_frozen BK400.out 1; have hfz15_2 := blk_frozen BK400.out 2; have hfz15_3 := blk_frozen BK400.out 3) | ((with_reducible refine gate_callee (f := 26) rfl ?_); refine goesT (some 20) Tryd.func26 #[.int .i64 (wrap64 (-a1_1))] ?_; (with_reducible refine (value_number.calls (wrap64 (-a1_1)) t406 t407 t408 t409 _ A6.out).mono ?_); rintro e w16 ⟨rfl, hb⟩; refine ⟨_, rfl, ?_⟩; replace HO404 := Aside0.mk (Kd.R_below (by (with_reducible repeat (first | apply Kd.R_alloc | apply Kd.R_drewN | apply Kd.R_drew)); exact HO404.out) hb); replace BK400 := bbA BK400 hb; replace BK401 := bbA BK401 hb; replace HB := bsA HB hb; (try clear hb); (try clear hb2); (try clear hk); (try clear hi); have hcz17_0 : w16.cell? ⟨gb401, 0, none⟩ = some (.int .i64 0) := (blk_cell BK401.out 0).trans rfl; have hcz17_1 : w16.cell? ⟨gb401, 1, none⟩ = some (.int .i64 0) := (blk_cell BK401.out 1).trans rfl; have hcz17_2 : w16.cell? ⟨gb401, 2, none⟩ = some (.string (⟨#[]⟩ : ByteArray)) := (blk_cell BK401.out 2).trans rfl; have hcz17_3 : w16.cell? ⟨gb401, 3, none⟩ = some (.bool false) := (blk_cell BK401.out 3).trans rfl; have hfz17_0 := blk_frozen BK401.out 0; have hfz17_1 := blk_frozen BK401.out 1; have hfz17_2 := blk_frozen BK401.out 2; have hfz17_3 := blk_frozen BK401.out 3))
      refine bodyPost_ret (results_ct rfl _ _ gb401 26 #[.int .i64 t406, .int .i64 t407, .string t408, .bool t409] (0, 0) _ rfl (by (with_reducible repeat (first | refine blk_drewN ?_ _ | refine blk_drew ?_ | refine blk_alloc ?_ _)); refine blk_put (cs := #[.int .i64 t406, .int .i64 t407, .string t408, .bool false]) ?_ 3 _ rfl; (with_reducible repeat (first | refine blk_drewN ?_ _ | refine blk_drew ?_ | refine blk_alloc ?_ _)); refine blk_put (cs := #[.int .i64 t406, .int .i64 t407, .string (⟨#[]⟩ : ByteArray), .bool false]) ?_ 2 _ rfl; (with_reducible repeat (first | refine blk_drewN ?_ _ | refine blk_drew ?_ | refine blk_alloc ?_ _)); refine blk_put (cs := #[.int .i64 t406, .int .i64 0, .string (⟨#[]⟩ : ByteArray), .bool false]) ?_ 1 _ rfl; (with_reducible repeat (first | refine blk_drewN ?_ _ | refine blk_drew ?_ | refine blk_alloc ?_ _)); refine blk_put (cs := #[.int .i64 0, .int .i64 0, .string (⟨#[]⟩ : ByteArray), .bool false]) ?_ 0 _ rfl; (with_reducible repeat (first | refine blk_drewN ?_ _ | refine blk_drew ?_ | refine blk_alloc ?_ _)); exact BK401.out) Tryd.underlying26 rfl (by kernel_rfl)) rfl ?_
      exact ⟨by first | rfl | (simp [errW_none, errW_some] <;> rfl) | (simp [*, errW_none, errW_some] <;> rfl), hbT HB.out⟩
    · rw [if_neg c5] at H
      have c5b0 : (a0 == 1) = false := beq_eq_false_iff_ne.mpr c5
      have c5b1 : (a0 != 1) = true := bne_iff_ne.mpr c5
      replace H := Option.bind_eq_some_iff.mp H
      obtain ⟨⟨t410, t411, t412, t413⟩, A180, H⟩ := H
      replace H : (some (t410, t411, t412, t413, 0)) = some (r1, r2, r3, r4, r5) := H
      have A18 := Aside0.mk A180
      clear A180
      simp only [Option.some.injEq, Prod.mk.injEq] at H
      obtain ⟨rfl, rfl, rfl, rfl, rfl⟩ := H
      go_enter Tryd.func22, Tryd.ntmps22
      go_wp2_with (first | ((with_reducible refine gate_dst (N := 3) rfl ?_); refine box_event ?hg (N := 3) ?hd (cs := #[.int .i64 a1_0, .int .i64 a1_1, .string a1_2, .bool a1_3]) (t := 26) ?hr ?_; (case hd => rfl); (case hg => rfl); (case hr => first | (go_simp; done) | (go_simp; rfl)); intro gb400 hg w19 hbox hb; have BK400 := Aside0.mk hbox; have GW400 := geA hg HB; have GE400 := geA hg HB; replace HB := bsA HB hb; clear hb hbox hg) | ((with_reducible refine gate_dst (N := 4) rfl ?_); refine box_event ?hg (N := 4) ?hd (cs := #[.int .i64 0, .int .i64 0, .string (⟨#[]⟩ : ByteArray), .bool false]) (t := 26) ?hr ?_; (case hd => rfl); (case hg => rfl); (case hr => first | (go_simp; done) | (go_simp; rfl)); intro gb401 hg w20 hbox hb; have BK401 := Aside0.mk hbox; have GW401 := geA hg HB; have GE401 := geA hg HB; have NB400_401 := neA hg BK400; have NB401_400 := neB hg BK400; replace BK400 := bbA BK400 hb; replace HB := bsA HB hb; clear hb hbox hg; have hnb21 := NB400_401.out; have hnc21 := NB401_400.out; have hcz22_0 : w20.cell? ⟨gb400, 0, none⟩ = some (.int .i64 a1_0) := (blk_cell BK400.out 0).trans rfl; have hcz22_1 : w20.cell? ⟨gb400, 1, none⟩ = some (.int .i64 a1_1) := (blk_cell BK400.out 1).trans rfl; have hcz22_2 : w20.cell? ⟨gb400, 2, none⟩ = some (.string a1_2) := (blk_cell BK400.out 2).trans rfl; have hcz22_3 : w20.cell? ⟨gb400, 3, none⟩ = some (.bool a1_3) := (blk_cell BK400.out 3).trans rfl; have hfz22_0 := blk_frozen BK400.out 0; have hfz22_1 := blk_frozen BK400.out 1; have hfz22_2 := blk_frozen BK400.out 2; have hfz22_3 := blk_frozen BK400.out 3) | ((with_reducible refine gate_dst (N := 9) rfl ?_); refine Kd.R_lit k26 _ 26 ?hg (N := 9) ?hd (xs := ([(⟨a1_0, a1_1, a1_2, a1_3⟩ : S26)] : List (S26))) (inner := [.int .i64 a1_0, .int .i64 a1_1, .string a1_2, .bool a1_3]) (ok := fun _ => True) (okp := fun _ => True) ?hr ?hp (fun _ hk => hk) trivial (Below.refl _ _) (Nat.le_refl _) (by simp) ?_; (case hd => rfl); (case hg => rfl); (case hr => first | (go_simp; done) | (go_simp; rfl)); (case hp => exact (Reps.c4 (show Kd.M k26 _ _ _ (⟨a1_0, a1_1, a1_2, a1_3⟩ : S26) [.int .i64 a1_0, .int .i64 a1_1, .string a1_2, .bool a1_3] from (k26_mkM _ _ _ (⟨a1_0, a1_1, a1_2, a1_3⟩ : S26) )) (Reps.none _ _))); intro v403 w23 ho24 hb hg_ hnew_; clear hg_ hnew_; (first | rw [← Ny402.out] at ho24 | (simp only [Int.reduceToNat] at ho24; rw [← Ny402.out] at ho24)); have HO404 := Aside0.mk (Kd.R_lower (Kd.R_newB (Kd.R_newB ho24 (g := gb400) (o := .cells #[.int .i64 a1_0, .int .i64 a1_1, .string a1_2, .bool a1_3] 26 (0, 0)) (bkT BK400.out)) (g := gb401) (o := .cells #[.int .i64 0, .int .i64 0, .string (⟨#[]⟩ : ByteArray), .bool false] 26 (0, 0)) (bkT BK401.out)) (below_size (hbT HB.out))); replace BK400 := bbA BK400 hb; replace BK401 := bbA BK401 hb; replace HB := bsA HB hb; clear hb ho24; obtain ⟨Ao25, co25, eo25⟩ := Kd.R_slice HO404.out; subst eo25) | ((with_reducible refine gate_callee (f := 45) rfl ?_); refine goesT (some 10) Tryd.func45 #[.int .i64 a0, .int .i64 1, .int .i64 2, .slice Ao25 y402.length co25] ?_; (with_reducible refine (value_refusal.calls k a0 1 2 _ _ y402 t405 _ ?side1 ?side2 ?side3 A3.out).mono ?_); (case side1 => repeat (first | exact (Kd.R_reads' HO404.out).2.2 | (with_reducible refine Kd.C_alloc ?_ _) | (with_reducible refine Kd.C_drewN ?_ _) | (with_reducible refine Kd.C_drew ?_))); (case side2 => exact (Kd.R_reads' HO404.out).2.1); (case side3 => first | (with_reducible exact HL_LG0) | exact ⟨LG0.below HL_LG0.out (hbT HB.out)⟩); rintro e w26 ⟨rfl, hb⟩; refine ⟨_, rfl, ?_⟩; replace HO404 := Aside0.mk (Kd.R_below (by (with_reducible repeat (first | apply Kd.R_alloc | apply Kd.R_drewN | apply Kd.R_drew)); exact HO404.out) hb); replace BK400 := bbA BK400 hb; replace BK401 := bbA BK401 hb; replace HB := bsA HB hb; (try clear hb); (try clear hb2); (try clear hk); (try clear hi); have hcz27_0 : w26.cell? ⟨gb400, 0, none⟩ = some (.int .i64 a1_0) := (blk_cell BK400.out 0).trans rfl; have hcz27_1 : w26.cell? ⟨gb400, 1, none⟩ = some (.int .i64 a1_1) := (blk_cell BK400.out 1).trans rfl; have hcz27_2 : w26.cell? ⟨gb400, 2, none⟩ = some (.string a1_2) := (blk_cell BK400.out 2).trans rfl; have hcz27_3 : w26.cell? ⟨gb400, 3, none⟩ = some (.bool a1_3) := (blk_cell BK400.out 3).trans rfl; have hfz27_0 := blk_frozen BK400.out 0; have hfz27_1 := blk_frozen BK400.out 1; have hfz27_2 := blk_frozen BK400.out 2; have hfz27_3 := blk_frozen BK400.out 3) | ((with_reducible refine gate_callee (f := 28) rfl ?_); refine goesT (some 24) Tryd.func28 #[.bool (!a1_3)] ?_; (with_reducible refine (value_truth.calls (!a1_3) t410 t411 t412 t413 _ A18.out).mono ?_); rintro e w28 ⟨rfl, hb⟩; refine ⟨_, rfl, ?_⟩; replace HO404 := Aside0.mk (Kd.R_below (by (with_reducible repeat (first | apply Kd.R_alloc | apply Kd.R_drewN | apply Kd.R_drew)); exact HO404.out) hb); replace BK400 := bbA BK400 hb; replace BK401 := bbA BK401 hb; replace HB := bsA HB hb; (try clear hb); (try clear hb2); (try clear hk); (try clear hi); have hcz29_0 : w28.cell? ⟨gb401, 0, none⟩ = some (.int .i64 0) := (blk_cell BK401.out 0).trans rfl; have hcz29_1 : w28.cell? ⟨gb401, 1, none⟩ = some (.int .i64 0) := (blk_cell BK401.out 1).trans rfl; have hcz29_2 : w28.cell? ⟨gb401, 2, none⟩ = some (.string (⟨#[]⟩ : ByteArray)) := (blk_cell BK401.out 2).trans rfl; have hcz29_3 : w28.cell? ⟨gb401, 3, none⟩ = some (.bool false) := (blk_cell BK401.out 3).trans rfl; have hfz29_0 := blk_frozen BK401.out 0; have hfz29_1 := blk_frozen BK401.out 1; have hfz29_2 := blk_frozen BK401.out 2; have hfz29_3 := blk_frozen BK401.out 3))
      refine bodyPost_ret (results_ct rfl _ _ gb401 26 #[.int .i64 t410, .int .i64 t411, .string t412, .bool t413] (0, 0) _ rfl (by (with_reducible repeat (first | refine blk_drewN ?_ _ | refine blk_drew ?_ | refine blk_alloc ?_ _)); refine blk_put (cs := #[.int .i64 t410, .int .i64 t411, .string t412, .bool false]) ?_ 3 _ rfl; (with_reducible repeat (first | refine blk_drewN ?_ _ | refine blk_drew ?_ | refine blk_alloc ?_ _)); refine blk_put (cs := #[.int .i64 t410, .int .i64 t411, .string (⟨#[]⟩ : ByteArray), .bool false]) ?_ 2 _ rfl; (with_reducible repeat (first | refine blk_drewN ?_ _ | refine blk_drew ?_ | refine blk_alloc ?_ _)); refine blk_put (cs := #[.int .i64 t410, .int .i64 0, .string (⟨#[]⟩ : ByteArray), .bool false]) ?_ 1 _ rfl; (with_reducible repeat (first | refine blk_drewN ?_ _ | refine blk_drew ?_ | refine blk_alloc ?_ _)); refine blk_put (cs := #[.int .i64 0, .int .i64 0, .string (⟨#[]⟩ : ByteArray), .bool false]) ?_ 0 _ rfl; (with_reducible repeat (first | refine blk_drewN ?_ _ | refine blk_drew ?_ | refine blk_alloc ?_ _)); exact BK401.out) Tryd.underlying26 rfl (by kernel_rfl)) rfl ?_
      exact ⟨by first | rfl | (simp [errW_none, errW_some] <;> rfl) | (simp [*, errW_none, errW_some] <;> rfl), hbT HB.out⟩
  · rw [if_neg c4] at H
    have c4b0 : (t405 == 0) = false := beq_eq_false_iff_ne.mpr c4
    have c4b1 : (t405 != 0) = true := bne_iff_ne.mpr c4
    simp only [Option.some.injEq, Prod.mk.injEq] at H
    obtain ⟨rfl, rfl, rfl, rfl, rfl⟩ := H
    go_enter Tryd.func22, Tryd.ntmps22
    go_wp2_with (first | ((with_reducible refine gate_dst (N := 3) rfl ?_); refine box_event ?hg (N := 3) ?hd (cs := #[.int .i64 a1_0, .int .i64 a1_1, .string a1_2, .bool a1_3]) (t := 26) ?hr ?_; (case hd => rfl); (case hg => rfl); (case hr => first | (go_simp; done) | (go_simp; rfl)); intro gb400 hg w30 hbox hb; have BK400 := Aside0.mk hbox; have GW400 := geA hg HB; have GE400 := geA hg HB; replace HB := bsA HB hb; clear hb hbox hg) | ((with_reducible refine gate_dst (N := 4) rfl ?_); refine box_event ?hg (N := 4) ?hd (cs := #[.int .i64 0, .int .i64 0, .string (⟨#[]⟩ : ByteArray), .bool false]) (t := 26) ?hr ?_; (case hd => rfl); (case hg => rfl); (case hr => first | (go_simp; done) | (go_simp; rfl)); intro gb401 hg w31 hbox hb; have BK401 := Aside0.mk hbox; have GW401 := geA hg HB; have GE401 := geA hg HB; have NB400_401 := neA hg BK400; have NB401_400 := neB hg BK400; replace BK400 := bbA BK400 hb; replace HB := bsA HB hb; clear hb hbox hg; have hnb32 := NB400_401.out; have hnc32 := NB401_400.out; have hcz33_0 : w31.cell? ⟨gb400, 0, none⟩ = some (.int .i64 a1_0) := (blk_cell BK400.out 0).trans rfl; have hcz33_1 : w31.cell? ⟨gb400, 1, none⟩ = some (.int .i64 a1_1) := (blk_cell BK400.out 1).trans rfl; have hcz33_2 : w31.cell? ⟨gb400, 2, none⟩ = some (.string a1_2) := (blk_cell BK400.out 2).trans rfl; have hcz33_3 : w31.cell? ⟨gb400, 3, none⟩ = some (.bool a1_3) := (blk_cell BK400.out 3).trans rfl; have hfz33_0 := blk_frozen BK400.out 0; have hfz33_1 := blk_frozen BK400.out 1; have hfz33_2 := blk_frozen BK400.out 2; have hfz33_3 := blk_frozen BK400.out 3) | ((with_reducible refine gate_dst (N := 9) rfl ?_); refine Kd.R_lit k26 _ 26 ?hg (N := 9) ?hd (xs := ([(⟨a1_0, a1_1, a1_2, a1_3⟩ : S26)] : List (S26))) (inner := [.int .i64 a1_0, .int .i64 a1_1, .string a1_2, .bool a1_3]) (ok := fun _ => True) (okp := fun _ => True) ?hr ?hp (fun _ hk => hk) trivial (Below.refl _ _) (Nat.le_refl _) (by simp) ?_; (case hd => rfl); (case hg => rfl); (case hr => first | (go_simp; done) | (go_simp; rfl)); (case hp => exact (Reps.c4 (show Kd.M k26 _ _ _ (⟨a1_0, a1_1, a1_2, a1_3⟩ : S26) [.int .i64 a1_0, .int .i64 a1_1, .string a1_2, .bool a1_3] from (k26_mkM _ _ _ (⟨a1_0, a1_1, a1_2, a1_3⟩ : S26) )) (Reps.none _ _))); intro v403 w34 ho35 hb hg_ hnew_; clear hg_ hnew_; (first | rw [← Ny402.out] at ho35 | (simp only [Int.reduceToNat] at ho35; rw [← Ny402.out] at ho35)); have HO404 := Aside0.mk (Kd.R_lower (Kd.R_newB (Kd.R_newB ho35 (g := gb400) (o := .cells #[.int .i64 a1_0, .int .i64 a1_1, .string a1_2, .bool a1_3] 26 (0, 0)) (bkT BK400.out)) (g := gb401) (o := .cells #[.int .i64 0, .int .i64 0, .string (⟨#[]⟩ : ByteArray), .bool false] 26 (0, 0)) (bkT BK401.out)) (below_size (hbT HB.out))); replace BK400 := bbA BK400 hb; replace BK401 := bbA BK401 hb; replace HB := bsA HB hb; clear hb ho35; obtain ⟨Ao36, co36, eo36⟩ := Kd.R_slice HO404.out; subst eo36) | ((with_reducible refine gate_callee (f := 45) rfl ?_); refine goesT (some 10) Tryd.func45 #[.int .i64 a0, .int .i64 1, .int .i64 2, .slice Ao36 y402.length co36] ?_; (with_reducible refine (value_refusal.calls k a0 1 2 _ _ y402 t405 _ ?side1 ?side2 ?side3 A3.out).mono ?_); (case side1 => repeat (first | exact (Kd.R_reads' HO404.out).2.2 | (with_reducible refine Kd.C_alloc ?_ _) | (with_reducible refine Kd.C_drewN ?_ _) | (with_reducible refine Kd.C_drew ?_))); (case side2 => exact (Kd.R_reads' HO404.out).2.1); (case side3 => first | (with_reducible exact HL_LG0) | exact ⟨LG0.below HL_LG0.out (hbT HB.out)⟩); rintro e w37 ⟨rfl, hb⟩; refine ⟨_, rfl, ?_⟩; replace HO404 := Aside0.mk (Kd.R_below (by (with_reducible repeat (first | apply Kd.R_alloc | apply Kd.R_drewN | apply Kd.R_drew)); exact HO404.out) hb); replace BK400 := bbA BK400 hb; replace BK401 := bbA BK401 hb; replace HB := bsA HB hb; (try clear hb); (try clear hb2); (try clear hk); (try clear hi); have hcz38_0 : w37.cell? ⟨gb401, 0, none⟩ = some (.int .i64 0) := (blk_cell BK401.out 0).trans rfl; have hcz38_1 : w37.cell? ⟨gb401, 1, none⟩ = some (.int .i64 0) := (blk_cell BK401.out 1).trans rfl; have hcz38_2 : w37.cell? ⟨gb401, 2, none⟩ = some (.string (⟨#[]⟩ : ByteArray)) := (blk_cell BK401.out 2).trans rfl; have hcz38_3 : w37.cell? ⟨gb401, 3, none⟩ = some (.bool false) := (blk_cell BK401.out 3).trans rfl; have hfz38_0 := blk_frozen BK401.out 0; have hfz38_1 := blk_frozen BK401.out 1; have hfz38_2 := blk_frozen BK401.out 2; have hfz38_3 := blk_frozen BK401.out 3))
    refine bodyPost_ret (results_ct rfl _ _ gb401 26 #[.int .i64 0, .int .i64 0, .string (⟨#[]⟩ : ByteArray), .bool false] (0, 0) _ rfl (by (with_reducible repeat (first | refine blk_drewN ?_ _ | refine blk_drew ?_ | refine blk_alloc ?_ _)); refine blk_put (cs := #[.int .i64 0, .int .i64 0, .string (⟨#[]⟩ : ByteArray), .bool false]) ?_ 3 _ rfl; (with_reducible repeat (first | refine blk_drewN ?_ _ | refine blk_drew ?_ | refine blk_alloc ?_ _)); refine blk_put (cs := #[.int .i64 0, .int .i64 0, .string (⟨#[]⟩ : ByteArray), .bool false]) ?_ 2 _ rfl; (with_reducible repeat (first | refine blk_drewN ?_ _ | refine blk_drew ?_ | refine blk_alloc ?_ _)); refine blk_put (cs := #[.int .i64 0, .int .i64 0, .string (⟨#[]⟩ : ByteArray), .bool false]) ?_ 1 _ rfl; (with_reducible repeat (first | refine blk_drewN ?_ _ | refine blk_drew ?_ | refine blk_alloc ?_ _)); refine blk_put (cs := #[.int .i64 0, .int .i64 0, .string (⟨#[]⟩ : ByteArray), .bool false]) ?_ 0 _ rfl; (with_reducible repeat (first | refine blk_drewN ?_ _ | refine blk_drew ?_ | refine blk_alloc ?_ _)); exact BK401.out) Tryd.underlying26 rfl (by kernel_rfl)) rfl ?_
    exact ⟨by first | rfl | (simp [errW_none, errW_some] <;> rfl) | (simp [*, errW_none, errW_some] <;> rfl), hbT HB.out⟩

/-! ### refrainref1_truth: function 47 -/
def refrainref1_truth.f (a0 : Bool) : Option (Int × Int × ByteArray × Bool) := some (3, 0, (⟨#[]⟩ : ByteArray), a0)
set_option maxHeartbeats 8000000 in
set_option maxRecDepth 100000 in
theorem refrainref1_truth.calls (a0 : Bool) (r1 : Int) (r2 : Int) (r3 : ByteArray) (r4 : Bool) (w : World) (h : refrainref1_truth.f a0 = some (r1, r2, r3, r4)) :
    Calls Tryd.prog 47 #[.bool a0] w fun e w' => e = .returned (.agg #[.int .i64 r1, .int .i64 r2, .string r3, .bool r4]) ∧ Below w.heap.size w w' := by
  have hu26 := Tryd.underlying26
  have HB := Aside0.mk (Below.refl w.heap.size w)
  have H : (some (3, 0, (⟨#[]⟩ : ByteArray), a0)) = some (r1, r2, r3, r4) := h
  clear h
  simp only [Option.some.injEq, Prod.mk.injEq] at H
  obtain ⟨rfl, rfl, rfl, rfl⟩ := H
  go_enter Tryd.func47, Tryd.ntmps47
  go_wp2_with (first | ((with_reducible refine gate_dst (N := 2) rfl ?_); refine box_event ?hg (N := 2) ?hd (cs := #[.int .i64 0, .int .i64 0, .string (⟨#[]⟩ : ByteArray), .bool false]) (t := 26) ?hr ?_; (case hd => rfl); (case hg => rfl); (case hr => first | (go_simp; done) | (go_simp; rfl)); intro gb414 hg w2 hbox hb; have BK414 := Aside0.mk hbox; have GW414 := geA hg HB; have GE414 := geA hg HB; replace HB := bsA HB hb; clear hb hbox hg; have hcz3_0 : w2.cell? ⟨gb414, 0, none⟩ = some (.int .i64 0) := (blk_cell BK414.out 0).trans rfl; have hcz3_1 : w2.cell? ⟨gb414, 1, none⟩ = some (.int .i64 0) := (blk_cell BK414.out 1).trans rfl; have hcz3_2 : w2.cell? ⟨gb414, 2, none⟩ = some (.string (⟨#[]⟩ : ByteArray)) := (blk_cell BK414.out 2).trans rfl; have hcz3_3 : w2.cell? ⟨gb414, 3, none⟩ = some (.bool false) := (blk_cell BK414.out 3).trans rfl; have hfz3_0 := blk_frozen BK414.out 0; have hfz3_1 := blk_frozen BK414.out 1; have hfz3_2 := blk_frozen BK414.out 2; have hfz3_3 := blk_frozen BK414.out 3))
  refine bodyPost_ret (results_cell_row rfl _ _ gb414 26 #[.int .i64 3, .int .i64 0, .string (⟨#[]⟩ : ByteArray), .bool a0] (0, 0) _ rfl (by (with_reducible repeat (first | refine blk_drewN ?_ _ | refine blk_drew ?_ | refine blk_alloc ?_ _)); refine blk_put (cs := #[.int .i64 3, .int .i64 0, .string (⟨#[]⟩ : ByteArray), .bool false]) ?_ 3 _ rfl; (with_reducible repeat (first | refine blk_drewN ?_ _ | refine blk_drew ?_ | refine blk_alloc ?_ _)); refine blk_put (cs := #[.int .i64 3, .int .i64 0, .string (⟨#[]⟩ : ByteArray), .bool false]) ?_ 2 _ rfl; (with_reducible repeat (first | refine blk_drewN ?_ _ | refine blk_drew ?_ | refine blk_alloc ?_ _)); refine blk_put (cs := #[.int .i64 3, .int .i64 0, .string (⟨#[]⟩ : ByteArray), .bool false]) ?_ 1 _ rfl; (with_reducible repeat (first | refine blk_drewN ?_ _ | refine blk_drew ?_ | refine blk_alloc ?_ _)); refine blk_put (cs := #[.int .i64 0, .int .i64 0, .string (⟨#[]⟩ : ByteArray), .bool false]) ?_ 0 _ rfl; (with_reducible repeat (first | refine blk_drewN ?_ _ | refine blk_drew ?_ | refine blk_alloc ?_ _)); exact BK414.out) Tryd.underlying26 rfl (by kernel_rfl)) rfl ?_
  exact ⟨by first | rfl | (simp [errW_none, errW_some] <;> rfl) | (simp [*, errW_none, errW_some] <;> rfl), hbT HB.out⟩

/-! ### refrainref1_number: function 48 -/
def refrainref1_number.f (a0 : Int) : Option (Int × Int × ByteArray × Bool) := some (1, wrap64 (a0), (⟨#[]⟩ : ByteArray), false)
set_option maxHeartbeats 8000000 in
set_option maxRecDepth 100000 in
theorem refrainref1_number.calls (a0 : Int) (r1 : Int) (r2 : Int) (r3 : ByteArray) (r4 : Bool) (w : World) (h : refrainref1_number.f a0 = some (r1, r2, r3, r4)) :
    Calls Tryd.prog 48 #[.int .u64 a0] w fun e w' => e = .returned (.agg #[.int .i64 r1, .int .i64 r2, .string r3, .bool r4]) ∧ Below w.heap.size w w' := by
  have hu26 := Tryd.underlying26
  have HB := Aside0.mk (Below.refl w.heap.size w)
  have H : (some (1, wrap64 (a0), (⟨#[]⟩ : ByteArray), false)) = some (r1, r2, r3, r4) := h
  clear h
  simp only [Option.some.injEq, Prod.mk.injEq] at H
  obtain ⟨rfl, rfl, rfl, rfl⟩ := H
  go_enter Tryd.func48, Tryd.ntmps48
  go_wp2_with (first | ((with_reducible refine gate_dst (N := 2) rfl ?_); refine box_event ?hg (N := 2) ?hd (cs := #[.int .i64 0, .int .i64 0, .string (⟨#[]⟩ : ByteArray), .bool false]) (t := 26) ?hr ?_; (case hd => rfl); (case hg => rfl); (case hr => first | (go_simp; done) | (go_simp; rfl)); intro gb415 hg w2 hbox hb; have BK415 := Aside0.mk hbox; have GW415 := geA hg HB; have GE415 := geA hg HB; replace HB := bsA HB hb; clear hb hbox hg; have hcz3_0 : w2.cell? ⟨gb415, 0, none⟩ = some (.int .i64 0) := (blk_cell BK415.out 0).trans rfl; have hcz3_1 : w2.cell? ⟨gb415, 1, none⟩ = some (.int .i64 0) := (blk_cell BK415.out 1).trans rfl; have hcz3_2 : w2.cell? ⟨gb415, 2, none⟩ = some (.string (⟨#[]⟩ : ByteArray)) := (blk_cell BK415.out 2).trans rfl; have hcz3_3 : w2.cell? ⟨gb415, 3, none⟩ = some (.bool false) := (blk_cell BK415.out 3).trans rfl; have hfz3_0 := blk_frozen BK415.out 0; have hfz3_1 := blk_frozen BK415.out 1; have hfz3_2 := blk_frozen BK415.out 2; have hfz3_3 := blk_frozen BK415.out 3))
  refine bodyPost_ret (results_cell_row rfl _ _ gb415 26 #[.int .i64 1, .int .i64 (wrap64 (a0)), .string (⟨#[]⟩ : ByteArray), .bool false] (0, 0) _ rfl (by (with_reducible repeat (first | refine blk_drewN ?_ _ | refine blk_drew ?_ | refine blk_alloc ?_ _)); refine blk_put (cs := #[.int .i64 1, .int .i64 (wrap64 (a0)), .string (⟨#[]⟩ : ByteArray), .bool false]) ?_ 3 _ rfl; (with_reducible repeat (first | refine blk_drewN ?_ _ | refine blk_drew ?_ | refine blk_alloc ?_ _)); refine blk_put (cs := #[.int .i64 1, .int .i64 (wrap64 (a0)), .string (⟨#[]⟩ : ByteArray), .bool false]) ?_ 2 _ rfl; (with_reducible repeat (first | refine blk_drewN ?_ _ | refine blk_drew ?_ | refine blk_alloc ?_ _)); refine blk_put (cs := #[.int .i64 1, .int .i64 0, .string (⟨#[]⟩ : ByteArray), .bool false]) ?_ 1 _ rfl; (with_reducible repeat (first | refine blk_drewN ?_ _ | refine blk_drew ?_ | refine blk_alloc ?_ _)); refine blk_put (cs := #[.int .i64 0, .int .i64 0, .string (⟨#[]⟩ : ByteArray), .bool false]) ?_ 0 _ rfl; (with_reducible repeat (first | refine blk_drewN ?_ _ | refine blk_drew ?_ | refine blk_alloc ?_ _)); exact BK415.out) Tryd.underlying26 rfl (by kernel_rfl)) rfl ?_
  exact ⟨by first | rfl | (simp [errW_none, errW_some] <;> rfl) | (simp [*, errW_none, errW_some] <;> rfl), hbT HB.out⟩

end Go.Proofs.YthhpeeckiggpaaaDoor.Pr

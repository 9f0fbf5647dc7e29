-- printed by a patched copy of the kit's print, for this seat
import Derived.Test.YthmcapdakplhdaaDoorPrx0
namespace Go.Proofs.YthmcapdakplhdaaDoor.Pr
open Go.RowKit Go.Proofs.YthmcapdakplhdaaDoorW.PrintWords Go.Proofs.YthmcapdakplhdaaDoorW.PrintLast Go.Proofs.YthmcapdakplhdaaDoorW.PrintMore
attribute [local go_sem] max2_int min2_int max_two min_two max_three min_three max_four min_four   -- for this text's walks alone
attribute [local go_sem high] Go.Proofs.YthmcapdakplhdaaDoor.isSome_setCell
set_option maxRecDepth 100000
set_option linter.unusedVariables false
set_option linter.unusedSimpArgs false

/-! ### refrainlaw5_alike: function 24 -/
mutual
def refrainlaw5_alike.j0 : Nat → List (S44) → List (S44) → Bool → Option (Bool)
  | 0, _, _, _ => none
  | k + 1, x0, x1, x29 => if x29 = true then (some false) else (refrainlaw5_alike.l0 k x0 x1 0)
def refrainlaw5_alike.l0 : Nat → List (S44) → List (S44) → Int → Option (Bool)
  | 0, _, _, _ => none
  | k + 1, x0, x1, x5 => if x5 < (x0.length : Int) then (if 0 ≤ x5 then (if x5 < (x1.length : Int) then (if ((rd_T44 x0 x5).f0) = ((rd_T44 x1 x5).f0) then (if ((rd_T44 x0 x5).f1).toList = ((rd_T44 x1 x5).f1).toList then (refrainlaw5_alike.l0 k x0 x1 (wrap64 (x5 + 1))) else (some false)) else (some false)) else (none)) else (none)) else (some true)
end
def refrainlaw5_alike.f (k : Nat) (l0 : List (S44)) (l1 : List (S44)) : Option (Bool) := if (l1.length : Int) = (wrap64 ((l0.length : Int) + 1)) then (if 0 ≤ (l0.length : Int) then (if (l0.length : Int) < (l1.length : Int) then (if ((rd_T44 l1 (l0.length : Int)).f0) = 5 then (refrainlaw5_alike.j0 k l0 l1 (((rd_T44 l1 (l0.length : Int)).f1).toList != ([] : List UInt8))) else (refrainlaw5_alike.j0 k l0 l1 true)) else (none)) else (none)) else (refrainlaw5_alike.j0 k l0 l1 true)
set_option maxRecDepth 100000 in
theorem refrainlaw5_alike.j0_zero : ∀ y0 y1 y2, refrainlaw5_alike.j0 0 y0 y1 y2 = none := fun _ _ _ => rfl
set_option maxRecDepth 100000 in
theorem refrainlaw5_alike.l0_zero : ∀ y0 y1 y2, refrainlaw5_alike.l0 0 y0 y1 y2 = none := fun _ _ _ => rfl
set_option maxRecDepth 100000 in
theorem refrainlaw5_alike.mono_l : ∀ k, (∀ y0 y1 y2, LeO (refrainlaw5_alike.j0 k y0 y1 y2) (refrainlaw5_alike.j0 (k + 1) y0 y1 y2)) ∧ (∀ y0 y1 y2, LeO (refrainlaw5_alike.l0 k y0 y1 y2) (refrainlaw5_alike.l0 (k + 1) y0 y1 y2))
  | 0 => ⟨fun _ _ _ r h => by (unfold refrainlaw5_alike.j0 at h; cases h), fun _ _ _ r h => by (unfold refrainlaw5_alike.l0 at h; cases h)⟩
  | k + 1 => by
    obtain ⟨ih0, ih1⟩ := refrainlaw5_alike.mono_l k
    refine ⟨?_, ?_⟩
    · intro y0 y1 y2
      unfold refrainlaw5_alike.j0
      repeat' first
      | (with_reducible exact ih0 _ _ _)
      | (with_reducible exact ih1 _ _ _)
      | (with_reducible exact LeO.refl _)
      | (with_reducible exact LeO.none _)
      | (with_reducible refine LeO.ite ?_ ?_)
      | (with_reducible refine LeO.bind ?_ (fun _ => ?_))
      | exact ih0 _ _ _
      | exact ih1 _ _ _
      | exact LeO.none _
      | refine LeO.ite ?_ ?_
      | refine LeO.bind ?_ (fun _ => ?_)
    · intro y0 y1 y2
      unfold refrainlaw5_alike.l0
      repeat' first
      | (with_reducible exact ih0 _ _ _)
      | (with_reducible exact ih1 _ _ _)
      | (with_reducible exact LeO.refl _)
      | (with_reducible exact LeO.none _)
      | (with_reducible refine LeO.ite ?_ ?_)
      | (with_reducible refine LeO.bind ?_ (fun _ => ?_))
      | exact ih0 _ _ _
      | exact ih1 _ _ _
      | exact LeO.none _
      | refine LeO.ite ?_ ?_
      | refine LeO.bind ?_ (fun _ => ?_)
set_option maxRecDepth 100000 in
theorem refrainlaw5_alike.mono : ∀ a0 a1 k, LeO (refrainlaw5_alike.f k a0 a1) (refrainlaw5_alike.f (k + 1) a0 a1) := by
  intro a0 a1 k
  obtain ⟨ih0, ih1⟩ := refrainlaw5_alike.mono_l k
  unfold refrainlaw5_alike.f
  repeat' first
      | (with_reducible exact ih0 _ _ _)
      | (with_reducible exact ih1 _ _ _)
      | (with_reducible exact LeO.refl _)
      | (with_reducible exact LeO.none _)
      | (with_reducible refine LeO.ite ?_ ?_)
      | (with_reducible refine LeO.bind ?_ (fun _ => ?_))
      | exact ih0 _ _ _
      | exact ih1 _ _ _
      | exact LeO.none _
      | refine LeO.ite ?_ ?_
      | refine LeO.bind ?_ (fun _ => ?_)
set_option maxHeartbeats 8000000 in
set_option maxRecDepth 100000 in
theorem refrainlaw5_alike.calls (k : Nat) (A0 : Option Addr) (c0 : Nat) (l0 : List (S44)) (A1 : Option Addr) (c1 : Nat) (l1 : List (S44)) (r : Bool) (w : World) (hr0 : Kd.C k44 w A0 l0.length l0) (hc0 : l0.length ≤ c0) (hr1 : Kd.C k44 w A1 l1.length l1) (hc1 : l1.length ≤ c1) (h : refrainlaw5_alike.f k l0 l1 = some r) :
    Calls Tryd.prog 24 #[.slice A0 l0.length c0, .slice A1 l1.length c1] w fun e w' => e = .returned (.bool r) ∧ Drawn0 w w' := by
  have HR0 := Aside0.mk hr0
  have HC0 := Aside0.mk hc0
  clear hr0 hc0
  have HR1 := Aside0.mk hr1
  have HC1 := Aside0.mk hc1
  clear hr1 hc1
  have H : (if (l1.length : Int) = (wrap64 ((l0.length : Int) + 1)) then (if 0 ≤ (l0.length : Int) then (if (l0.length : Int) < (l1.length : Int) then (if ((rd_T44 l1 (l0.length : Int)).f0) = 5 then (refrainlaw5_alike.j0 k l0 l1 (((rd_T44 l1 (l0.length : Int)).f1).toList != ([] : List UInt8))) else (refrainlaw5_alike.j0 k l0 l1 true)) else (none)) else (none)) else (refrainlaw5_alike.j0 k l0 l1 true)) = some r := h
  clear h
  have HC3 := Aside0.mk H
  clear H
  go_enter Tryd.func24, Tryd.ntmps24
  go_upto_region 1 with (fail)
  repeat (go_quiet (fail); go_upto_region 1 with (fail))
  go_cut [29] (fun v29 wc => ∃ (kq : Nat) (x29_2 : Bool), v29 = .bool x29_2 ∧ Aside0 (refrainlaw5_alike.j0 kq l0 l1 x29_2 = some r) ∧ Aside0 (kq ≤ k) ∧ Drawn0 w wc)
  case first =>
    have H := HC3.out
    clear HC3
    by_cases c4 : (l1.length : Int) = (wrap64 ((l0.length : Int) + 1))
    · rw [if_pos c4] at H
      have c4b0 : ((l1.length : Int) == (wrap64 ((l0.length : Int) + 1))) = true := beq_iff_eq.mpr c4
      have c4b1 : ((l1.length : Int) != (wrap64 ((l0.length : Int) + 1))) = false := bne_eq_false_iff_eq.mpr c4
      clear c4
      (first | rw [c4b0] | (simp only [i64_w, i32_w, IntKind.wrap_u8, IntKind.wrap_u16, IntKind.wrap_u32]; rw [c4b0]) | skip)
      by_cases c5 : 0 ≤ (l0.length : Int)
      · rw [if_pos c5] at H
        have c5b0 : decide (0 ≤ (l0.length : Int)) = true := decide_eq_true c5
        have c5b1 : decide (0 ≤ l0.length) = true := decide_eq_true (by omega)
        clear c5
        by_cases c6 : (l0.length : Int) < (l1.length : Int)
        · rw [if_pos c6] at H
          have c6b0 : decide ((l0.length : Int) < (l1.length : Int)) = true := decide_eq_true c6
          have c6b1 : decide (l0.length < l1.length) = true := decide_eq_true (Int.ofNat_lt.mp c6)
          clear c6
          by_cases c7 : ((rd_T44 l1 (l0.length : Int)).f0) = 5
          · rw [if_pos c7] at H
            have c7b0 : (((rd_T44 l1 (l0.length : Int)).f0) == 5) = true := beq_iff_eq.mpr c7
            have c7b1 : (((rd_T44 l1 (l0.length : Int)).f0) != 5) = false := bne_eq_false_iff_eq.mpr c7
            clear c7
            have H' := Aside0.mk H
            clear H
            have p428 : 0 ≤ ((l0.length : Int) : Int) := of_decide_eq_true (by first | (with_reducible assumption) | assumption)
            have q428 : (l0.length : Int) < (l1.length : Int) := of_decide_eq_true (by first | (with_reducible assumption) | assumption)
            obtain ⟨ad428, e428, hx428_0, hx428_1, hx428_2⟩ := at_T44 HR1.out (l0.length : Int) p428 q428
            cases e428
            (try simp only [Go.IntWalk.toNatUp] at hx428_0)
            (try simp only [Go.IntWalk.toNatUp] at hx428_1)
            (try simp only [Go.IntWalk.toNatUp] at hx428_2)
            replace p428 := eq_true p428
            replace q428 := eq_true q428
            have p429 : 0 ≤ ((l0.length : Int) : Int) := of_decide_eq_true (by first | (with_reducible assumption) | assumption)
            have q429 : (l0.length : Int) < (l1.length : Int) := of_decide_eq_true (by first | (with_reducible assumption) | assumption)
            obtain ⟨ad429, e429, hx429_0, hx429_1, hx429_2⟩ := at_T44 HR1.out (l0.length : Int) p429 q429
            obtain rfl : ad428 = ad429 := (by injection e429)
            (try simp only [Go.IntWalk.toNatUp] at hx429_0)
            (try simp only [Go.IntWalk.toNatUp] at hx429_1)
            (try simp only [Go.IntWalk.toNatUp] at hx429_2)
            replace p429 := eq_true p429
            replace q429 := eq_true q429
            go_wp2
            repeat (go_quiet (fail); try go_wp2)
            go_meet
            case rel => exact ⟨_, ((((rd_T44 l1 (l0.length : Int)).f1).toList != ([] : List UInt8))), (by first | rfl | (simp; done) | (simp [*]; done) | (simp; unfold wrap64; omega) | (congr 1; (try rw [Bool.eq_iff_iff]); simp [List.isEmpty_iff]; done)), H', ⟨by first | omega | exact Nat.le_refl _⟩, by repeat (first | exact Drawn0.refl _ | apply Drawn0.step)⟩
          · rw [if_neg c7] at H
            have c7b0 : (((rd_T44 l1 (l0.length : Int)).f0) == 5) = false := beq_eq_false_iff_ne.mpr c7
            have c7b1 : (((rd_T44 l1 (l0.length : Int)).f0) != 5) = true := bne_iff_ne.mpr c7
            have H' := Aside0.mk H
            clear H
            have p428 : 0 ≤ ((l0.length : Int) : Int) := of_decide_eq_true (by first | (with_reducible assumption) | assumption)
            have q428 : (l0.length : Int) < (l1.length : Int) := of_decide_eq_true (by first | (with_reducible assumption) | assumption)
            obtain ⟨ad428, e428, hx428_0, hx428_1, hx428_2⟩ := at_T44 HR1.out (l0.length : Int) p428 q428
            cases e428
            (try simp only [Go.IntWalk.toNatUp] at hx428_0)
            (try simp only [Go.IntWalk.toNatUp] at hx428_1)
            (try simp only [Go.IntWalk.toNatUp] at hx428_2)
            replace p428 := eq_true p428
            replace q428 := eq_true q428
            go_wp2
            repeat (go_quiet (fail); try go_wp2)
            go_meet
            case rel => exact ⟨_, (true), (by first | rfl | (simp; done) | (simp [*]; done) | (simp; unfold wrap64; omega) | (congr 1; (try rw [Bool.eq_iff_iff]); simp [List.isEmpty_iff]; done)), H', ⟨by first | omega | exact Nat.le_refl _⟩, by repeat (first | exact Drawn0.refl _ | apply Drawn0.step)⟩
        · rw [if_neg c6] at H
          exact absurd H (by simp)
      · rw [if_neg c5] at H
        exact absurd H (by simp)
    · rw [if_neg c4] at H
      have c4b0 : ((l1.length : Int) == (wrap64 ((l0.length : Int) + 1))) = false := beq_eq_false_iff_ne.mpr c4
      have c4b1 : ((l1.length : Int) != (wrap64 ((l0.length : Int) + 1))) = true := bne_iff_ne.mpr c4
      (first | rw [c4b0] | (simp only [i64_w, i32_w, IntKind.wrap_u8, IntKind.wrap_u16, IntKind.wrap_u32]; rw [c4b0]) | skip)
      have H' := Aside0.mk H
      clear H
      go_wp2
      repeat (go_quiet (fail); try go_wp2)
      go_meet
      case rel => exact ⟨_, (true), (by first | rfl | (simp; done) | (simp [*]; done) | (simp; unfold wrap64; omega) | (congr 1; (try rw [Bool.eq_iff_iff]); simp [List.isEmpty_iff]; done)), H', ⟨by first | omega | exact Nat.le_refl _⟩, by repeat (first | exact Drawn0.refl _ | apply Drawn0.step)⟩
  case rest =>
    clear HC3
    try clear c1
    try clear c2
    try clear p2
    try clear c4
    try clear c4b0
    try clear c4b1
    try clear p4
    try clear q4
    try clear hx4
    try clear c5
    try clear c5b0
    try clear c5b1
    try clear c6
    try clear c6b0
    try clear c6b1
    try clear p6
    try clear c7
    try clear c7b0
    try clear c7b1
    try clear hx428_0
    try clear hx428_1
    try clear hx428_2
    try clear hx429_0
    try clear hx429_1
    try clear hx429_2
    try clear p428
    try clear p429
    try clear q428
    try clear q429
    obtain ⟨kq, x29_2, rfl, HA, HJ2, ⟨mc2, rfl⟩⟩ := hcut
    cases kq with
    | zero => (have HA2 := HA.out; clear HA; revert HA2; rw [refrainlaw5_alike.j0_zero]; intro h_; cases h_)
    | succ kj2 =>
      have H := HA.out
      clear HA
      simp only [refrainlaw5_alike.j0] at H
      by_cases c8 : x29_2 = true
      · subst c8
        have H1 : (some false) = some r := by rw [if_pos rfl] at H; exact H
        clear H
        have H := H1
        clear H1
        obtain rfl := Option.some.inj H
        go_wp2
        repeat (go_quiet (fail); try go_wp2)
        go_ret
        exact ⟨by first | rfl | (simp; done) | (simp [*]; done) | (simp; unfold wrap64; omega) | (congr 1; (try rw [Bool.eq_iff_iff]); simp [List.isEmpty_iff]; done), by repeat (first | exact Drawn0.refl _ | apply Drawn0.step)⟩
      · replace c8 := Bool.eq_false_iff.mpr c8
        subst c8
        have H1 : (refrainlaw5_alike.l0 kj2 l0 l1 0) = some r := by rw [if_neg (show ¬ (false = true) by decide)] at H; exact H
        clear H
        have H := H1
        clear H1
        have H' := Aside0.mk H
        clear H
        go_wp2
        repeat (go_quiet (fail); try go_wp2)
        go_loopg [5] kj2 (fun kq v5 w' => ∃ (x5_2 : Int), v5 = .int .i64 x5_2 ∧ Aside0 (refrainlaw5_alike.l0 kq l0 l1 x5_2 = some r) ∧ Aside0 (kq ≤ kj2) ∧ Drawn0 w w')
        case atStart => exact ⟨(0), (by first | rfl | (simp; done) | (simp [*]; done) | (simp; unfold wrap64; omega) | (congr 1; (try rw [Bool.eq_iff_iff]); simp [List.isEmpty_iff]; done)), H', ⟨Nat.le_refl _⟩, by repeat (first | exact Drawn0.refl _ | apply Drawn0.step)⟩
        case round =>
          clear H'
          try clear c1
          try clear c2
          try clear p2
          try clear c4
          try clear c4b0
          try clear c4b1
          try clear p4
          try clear q4
          try clear hx4
          try clear c5
          try clear c5b0
          try clear c5b1
          try clear c6
          try clear c6b0
          try clear c6b1
          try clear p6
          try clear c7
          try clear c7b0
          try clear c7b1
          try clear c8
          try clear hx428_0
          try clear hx428_1
          try clear hx428_2
          try clear hx429_0
          try clear hx429_1
          try clear hx429_2
          try clear p2
          try clear p4
          try clear p428
          try clear p429
          try clear p6
          try clear q4
          try clear q428
          try clear q429
          obtain ⟨x5_2, rfl, HA, HK2, ⟨m2, rfl⟩⟩ := hrel
          cases gk with
          | zero => (have HA2 := HA.out; clear HA; revert HA2; rw [refrainlaw5_alike.l0_zero]; intro h_; cases h_)
          | succ k2 =>
            have H := HA.out
            clear HA
            simp only [refrainlaw5_alike.l0] at H
            by_cases c9 : x5_2 < (l0.length : Int)
            · rw [if_pos c9] at H
              have c9b0 : decide (x5_2 < (l0.length : Int)) = true := decide_eq_true c9
              clear c9
              by_cases c10 : 0 ≤ x5_2
              · rw [if_pos c10] at H
                have c10b0 : decide (0 ≤ x5_2) = true := decide_eq_true c10
                clear c10
                by_cases c11 : x5_2 < (l1.length : Int)
                · rw [if_pos c11] at H
                  have c11b0 : decide (x5_2 < (l1.length : Int)) = true := decide_eq_true c11
                  clear c11
                  by_cases c12 : ((rd_T44 l0 x5_2).f0) = ((rd_T44 l1 x5_2).f0)
                  · rw [if_pos c12] at H
                    have c12b0 : (((rd_T44 l0 x5_2).f0) == ((rd_T44 l1 x5_2).f0)) = true := beq_iff_eq.mpr c12
                    have c12b1 : (((rd_T44 l0 x5_2).f0) != ((rd_T44 l1 x5_2).f0)) = false := bne_eq_false_iff_eq.mpr c12
                    clear c12
                    by_cases c13 : ((rd_T44 l0 x5_2).f1).toList = ((rd_T44 l1 x5_2).f1).toList
                    · rw [if_pos c13] at H
                      have c13b0 : (((rd_T44 l0 x5_2).f1).toList == ((rd_T44 l1 x5_2).f1).toList) = true := beq_iff_eq.mpr c13
                      have c13b1 : (((rd_T44 l0 x5_2).f1).toList != ((rd_T44 l1 x5_2).f1).toList) = false := bne_eq_false_iff_eq.mpr c13
                      clear c13
                      have H' := Aside0.mk H
                      clear H
                      have p430 : 0 ≤ (x5_2 : Int) := of_decide_eq_true (by first | (with_reducible assumption) | assumption)
                      have q430 : x5_2 < (l0.length : Int) := of_decide_eq_true (by first | (with_reducible assumption) | assumption)
                      obtain ⟨ad430, e430, hx430_0, hx430_1, hx430_2⟩ := at_T44 HR0.out x5_2 p430 q430
                      cases e430
                      replace p430 := eq_true p430
                      replace q430 := eq_true q430
                      have p431 : 0 ≤ (x5_2 : Int) := of_decide_eq_true (by first | (with_reducible assumption) | assumption)
                      have q431 : x5_2 < (l1.length : Int) := of_decide_eq_true (by first | (with_reducible assumption) | assumption)
                      obtain ⟨ad431, e431, hx431_0, hx431_1, hx431_2⟩ := at_T44 HR1.out x5_2 p431 q431
                      cases e431
                      replace p431 := eq_true p431
                      replace q431 := eq_true q431
                      have p432 : 0 ≤ (x5_2 : Int) := of_decide_eq_true (by first | (with_reducible assumption) | assumption)
                      have q432 : x5_2 < (l0.length : Int) := of_decide_eq_true (by first | (with_reducible assumption) | assumption)
                      obtain ⟨ad432, e432, hx432_0, hx432_1, hx432_2⟩ := at_T44 HR0.out x5_2 p432 q432
                      obtain rfl : ad430 = ad432 := (by injection e432)
                      replace p432 := eq_true p432
                      replace q432 := eq_true q432
                      have p433 : 0 ≤ (x5_2 : Int) := of_decide_eq_true (by first | (with_reducible assumption) | assumption)
                      have q433 : x5_2 < (l1.length : Int) := of_decide_eq_true (by first | (with_reducible assumption) | assumption)
                      obtain ⟨ad433, e433, hx433_0, hx433_1, hx433_2⟩ := at_T44 HR1.out x5_2 p433 q433
                      obtain rfl : ad431 = ad433 := (by injection e433)
                      replace p433 := eq_true p433
                      replace q433 := eq_true q433
                      go_wp2
                      repeat (go_quiet (fail); try go_wp2)
                      go_roundg k2
                      case measure => have := HJ2.out; have := HK2.out; omega
                      case rel => exact ⟨(wrap64 (x5_2 + 1)), (by first | rfl | (simp; done) | (simp [*]; done) | (simp; unfold wrap64; omega) | (congr 1; (try rw [Bool.eq_iff_iff]); simp [List.isEmpty_iff]; done)), H', ⟨by have := HJ2.out; have := HK2.out; omega⟩, by repeat (first | exact Drawn0.refl _ | apply Drawn0.step)⟩
                    · rw [if_neg c13] at H
                      have c13b0 : (((rd_T44 l0 x5_2).f1).toList == ((rd_T44 l1 x5_2).f1).toList) = false := beq_eq_false_iff_ne.mpr c13
                      have c13b1 : (((rd_T44 l0 x5_2).f1).toList != ((rd_T44 l1 x5_2).f1).toList) = true := bne_iff_ne.mpr c13
                      obtain rfl := Option.some.inj H
                      have p430 : 0 ≤ (x5_2 : Int) := of_decide_eq_true (by first | (with_reducible assumption) | assumption)
                      have q430 : x5_2 < (l0.length : Int) := of_decide_eq_true (by first | (with_reducible assumption) | assumption)
                      obtain ⟨ad430, e430, hx430_0, hx430_1, hx430_2⟩ := at_T44 HR0.out x5_2 p430 q430
                      cases e430
                      replace p430 := eq_true p430
                      replace q430 := eq_true q430
                      have p431 : 0 ≤ (x5_2 : Int) := of_decide_eq_true (by first | (with_reducible assumption) | assumption)
                      have q431 : x5_2 < (l1.length : Int) := of_decide_eq_true (by first | (with_reducible assumption) | assumption)
                      obtain ⟨ad431, e431, hx431_0, hx431_1, hx431_2⟩ := at_T44 HR1.out x5_2 p431 q431
                      cases e431
                      replace p431 := eq_true p431
                      replace q431 := eq_true q431
                      have p432 : 0 ≤ (x5_2 : Int) := of_decide_eq_true (by first | (with_reducible assumption) | assumption)
                      have q432 : x5_2 < (l0.length : Int) := of_decide_eq_true (by first | (with_reducible assumption) | assumption)
                      obtain ⟨ad432, e432, hx432_0, hx432_1, hx432_2⟩ := at_T44 HR0.out x5_2 p432 q432
                      obtain rfl : ad430 = ad432 := (by injection e432)
                      replace p432 := eq_true p432
                      replace q432 := eq_true q432
                      have p433 : 0 ≤ (x5_2 : Int) := of_decide_eq_true (by first | (with_reducible assumption) | assumption)
                      have q433 : x5_2 < (l1.length : Int) := of_decide_eq_true (by first | (with_reducible assumption) | assumption)
                      obtain ⟨ad433, e433, hx433_0, hx433_1, hx433_2⟩ := at_T44 HR1.out x5_2 p433 q433
                      obtain rfl : ad431 = ad433 := (by injection e433)
                      replace p433 := eq_true p433
                      replace q433 := eq_true q433
                      go_wp2
                      repeat (go_quiet (fail); try go_wp2)
                      go_ret
                      exact ⟨by first | rfl | (simp; done) | (simp [*]; done) | (simp; unfold wrap64; omega) | (congr 1; (try rw [Bool.eq_iff_iff]); simp [List.isEmpty_iff]; done), by repeat (first | exact Drawn0.refl _ | apply Drawn0.step)⟩
                  · rw [if_neg c12] at H
                    have c12b0 : (((rd_T44 l0 x5_2).f0) == ((rd_T44 l1 x5_2).f0)) = false := beq_eq_false_iff_ne.mpr c12
                    have c12b1 : (((rd_T44 l0 x5_2).f0) != ((rd_T44 l1 x5_2).f0)) = true := bne_iff_ne.mpr c12
                    obtain rfl := Option.some.inj H
                    have p430 : 0 ≤ (x5_2 : Int) := of_decide_eq_true (by first | (with_reducible assumption) | assumption)
                    have q430 : x5_2 < (l0.length : Int) := of_decide_eq_true (by first | (with_reducible assumption) | assumption)
                    obtain ⟨ad430, e430, hx430_0, hx430_1, hx430_2⟩ := at_T44 HR0.out x5_2 p430 q430
                    cases e430
                    replace p430 := eq_true p430
                    replace q430 := eq_true q430
                    have p431 : 0 ≤ (x5_2 : Int) := of_decide_eq_true (by first | (with_reducible assumption) | assumption)
                    have q431 : x5_2 < (l1.length : Int) := of_decide_eq_true (by first | (with_reducible assumption) | assumption)
                    obtain ⟨ad431, e431, hx431_0, hx431_1, hx431_2⟩ := at_T44 HR1.out x5_2 p431 q431
                    cases e431
                    replace p431 := eq_true p431
                    replace q431 := eq_true q431
                    go_wp2
                    repeat (go_quiet (fail); try go_wp2)
                    go_ret
                    exact ⟨by first | rfl | (simp; done) | (simp [*]; done) | (simp; unfold wrap64; omega) | (congr 1; (try rw [Bool.eq_iff_iff]); simp [List.isEmpty_iff]; done), by repeat (first | exact Drawn0.refl _ | apply Drawn0.step)⟩
                · rw [if_neg c11] at H
                  exact absurd H (by simp)
              · rw [if_neg c10] at H
                exact absurd H (by simp)
            · rw [if_neg c9] at H
              have c9b0 : decide (x5_2 < (l0.length : Int)) = false := decide_eq_false c9
              clear c9
              obtain rfl := Option.some.inj H
              go_wp2
              repeat (go_quiet (fail); try go_wp2)
              go_ret
              exact ⟨by first | rfl | (simp; done) | (simp [*]; done) | (simp; unfold wrap64; omega) | (congr 1; (try rw [Bool.eq_iff_iff]); simp [List.isEmpty_iff]; done), by repeat (first | exact Drawn0.refl _ | apply Drawn0.step)⟩

end Go.Proofs.YthmcapdakplhdaaDoor.Pr

-- printed by a patched copy of the kit's print, for this seat
import Derived.Test.YthmcapdakplhdaaDoorPrx0
namespace Go.Proofs.YthmcapdakplhdaaDoor.Pr
open Go.RowKit Go.Proofs.YthmcapdakplhdaaDoorW.PrintWords Go.Proofs.YthmcapdakplhdaaDoorW.PrintLast Go.Proofs.YthmcapdakplhdaaDoorW.PrintMore
attribute [local go_sem] max2_int min2_int max_two min_two max_three min_three max_four min_four   -- for this text's walks alone
attribute [local go_sem high] Go.Proofs.YthmcapdakplhdaaDoor.isSome_setCell
set_option maxRecDepth 100000
set_option linter.unusedVariables false
set_option linter.unusedSimpArgs false

/-! ### refrainlaw5_filler: function 25 -/
mutual
def refrainlaw5_filler.l0 : Nat → Int → ByteArray → List Int → Int → Option (ByteArray)
  | 0, _, _, _, _ => none
  | k + 1, x0, x1, x5, x6 => if x6 < (x1.size : Int) then (refrainlaw5_filler.j1 k x0 x1 x5 x6 (decide (x6 < 20))) else (refrainlaw5_filler.j1 k x0 x1 x5 x6 false)
def refrainlaw5_filler.j1 : Nat → Int → ByteArray → List Int → Int → Bool → Option (ByteArray)
  | 0, _, _, _, _, _ => none
  | k + 1, x0, x1, x5, x6, x14 => if x14 = true then (if 0 ≤ x6 then (if x6 < (x1.size : Int) then (if (bt x1 x6) = 10 then (refrainlaw5_filler.l0 k x0 x1 x5 (wrap64 (x6 + 1))) else (if x5.length < 140737488355328 then (refrainlaw5_filler.l0 k x0 x1 (x5 ++ [bt x1 x6]) (wrap64 (x6 + 1))) else (none))) else (none)) else (none)) else (if (Int.tmod x0 5) = 0 then (some (⟨#[10]⟩ : ByteArray)) else (if (Int.tmod x0 5) = 1 then (some (⟨#[9, 32, 13, 10]⟩ : ByteArray)) else (if (Int.tmod x0 5) = 2 then (if 3 + (strOfNums x5).size ≤ 9223372036854775807 then (if ((⟨#[32, 45, 45]⟩ : ByteArray) ++ (strOfNums x5)).size + 1 ≤ 9223372036854775807 then (some (((⟨#[32, 45, 45]⟩ : ByteArray) ++ (strOfNums x5)) ++ (⟨#[10]⟩ : ByteArray))) else (none)) else (none)) else (if (Int.tmod x0 5) = 3 then (if 8 + (strOfNums x5).size ≤ 9223372036854775807 then (if ((⟨#[32, 45, 45, 32, 120, 10, 45, 45]⟩ : ByteArray) ++ (strOfNums x5)).size + 2 ≤ 9223372036854775807 then (some (((⟨#[32, 45, 45, 32, 120, 10, 45, 45]⟩ : ByteArray) ++ (strOfNums x5)) ++ (⟨#[10, 32]⟩ : ByteArray))) else (none)) else (none)) else (some (⟨#[32, 32]⟩ : ByteArray))))))
end
def refrainlaw5_filler.f (k : Nat) (a0 : Int) (a1 : ByteArray) : Option (ByteArray) := refrainlaw5_filler.l0 k a0 a1 ([] : List Int) 0
set_option maxRecDepth 100000 in
theorem refrainlaw5_filler.l0_zero : ∀ y0 y1 y2 y3, refrainlaw5_filler.l0 0 y0 y1 y2 y3 = none := fun _ _ _ _ => rfl
set_option maxRecDepth 100000 in
theorem refrainlaw5_filler.j1_zero : ∀ y0 y1 y2 y3 y4, refrainlaw5_filler.j1 0 y0 y1 y2 y3 y4 = none := fun _ _ _ _ _ => rfl
set_option maxRecDepth 100000 in
theorem refrainlaw5_filler.mono_l : ∀ k, (∀ y0 y1 y2 y3, LeO (refrainlaw5_filler.l0 k y0 y1 y2 y3) (refrainlaw5_filler.l0 (k + 1) y0 y1 y2 y3)) ∧ (∀ y0 y1 y2 y3 y4, LeO (refrainlaw5_filler.j1 k y0 y1 y2 y3 y4) (refrainlaw5_filler.j1 (k + 1) y0 y1 y2 y3 y4))
  | 0 => ⟨fun _ _ _ _ r h => by (unfold refrainlaw5_filler.l0 at h; cases h), fun _ _ _ _ _ r h => by (unfold refrainlaw5_filler.j1 at h; cases h)⟩
  | k + 1 => by
    obtain ⟨ih0, ih1⟩ := refrainlaw5_filler.mono_l k
    refine ⟨?_, ?_⟩
    · intro y0 y1 y2 y3
      unfold refrainlaw5_filler.l0
      repeat' first
      | (with_reducible exact ih0 _ _ _ _)
      | (with_reducible exact ih1 _ _ _ _ _)
      | (with_reducible exact LeO.refl _)
      | (with_reducible exact LeO.none _)
      | (with_reducible refine LeO.ite ?_ ?_)
      | (with_reducible refine LeO.bind ?_ (fun _ => ?_))
      | exact ih0 _ _ _ _
      | exact ih1 _ _ _ _ _
      | exact LeO.none _
      | refine LeO.ite ?_ ?_
      | refine LeO.bind ?_ (fun _ => ?_)
    · intro y0 y1 y2 y3 y4
      unfold refrainlaw5_filler.j1
      repeat' first
      | (with_reducible exact ih0 _ _ _ _)
      | (with_reducible exact ih1 _ _ _ _ _)
      | (with_reducible exact LeO.refl _)
      | (with_reducible exact LeO.none _)
      | (with_reducible refine LeO.ite ?_ ?_)
      | (with_reducible refine LeO.bind ?_ (fun _ => ?_))
      | exact ih0 _ _ _ _
      | exact ih1 _ _ _ _ _
      | exact LeO.none _
      | refine LeO.ite ?_ ?_
      | refine LeO.bind ?_ (fun _ => ?_)
set_option maxRecDepth 100000 in
theorem refrainlaw5_filler.mono : ∀ a0 a1 k, LeO (refrainlaw5_filler.f k a0 a1) (refrainlaw5_filler.f (k + 1) a0 a1) := by
  intro a0 a1 k
  obtain ⟨ih0, ih1⟩ := refrainlaw5_filler.mono_l k
  unfold refrainlaw5_filler.f
  repeat' first
      | (with_reducible exact ih0 _ _ _ _)
      | (with_reducible exact ih1 _ _ _ _ _)
      | (with_reducible exact LeO.refl _)
      | (with_reducible exact LeO.none _)
      | (with_reducible refine LeO.ite ?_ ?_)
      | (with_reducible refine LeO.bind ?_ (fun _ => ?_))
      | exact ih0 _ _ _ _
      | exact ih1 _ _ _ _ _
      | exact LeO.none _
      | refine LeO.ite ?_ ?_
      | refine LeO.bind ?_ (fun _ => ?_)
set_option maxHeartbeats 8000000 in
set_option maxRecDepth 100000 in
theorem refrainlaw5_filler.calls (k : Nat) (a0 : Int) (a1 : ByteArray) (r : ByteArray) (w : World) (h : refrainlaw5_filler.f k a0 a1 = some r) :
    Calls Tryd.prog 25 #[.int .u8 a0, .string a1] w fun e w' => e = .returned (.string r) ∧ Below w.heap.size w w' := by
  have HB := Aside0.mk (Below.refl w.heap.size w)
  have H : (refrainlaw5_filler.l0 k a0 a1 ([] : List Int) 0) = some r := h
  clear h
  have H' := Aside0.mk H
  clear H
  go_enter Tryd.func25, Tryd.ntmps25
  go_wp2
  go_loopg [5, 6] k (fun kq v5 v6 w' => ∃ (x5_1 : List Int) (x6_1 : Int), v6 = .int .i64 x6_1 ∧ Aside0 (refrainlaw5_filler.l0 kq a0 a1 x5_1 x6_1 = some r) ∧ Aside0 (kq ≤ k) ∧ Aside0 (Kd.R (Kd.int .u8) 5 w' w.heap.size (fun _ => True) v5 x5_1) ∧ Aside0 (Below w.heap.size w w'))
  case atStart => exact ⟨(([] : List Int)), (0), (by first | rfl | (simp; done) | (simp [*]; done) | (simp; unfold wrap64; omega) | (congr 1; (try rw [Bool.eq_iff_iff]); simp [List.isEmpty_iff]; done)), H', ⟨Nat.le_refl _⟩, ⟨by first | exact Kd.R_nil _ _ _ _ _ | exact Kd.N_nil _ _ _ _ _ | exact Kd.V_nil _ _ _ _ _ | exact Kd.Q_nil _ _ _ _ _ | exact Kd.S_nil _ _ _ _ _⟩, ⟨hbT HB.out⟩⟩
  case round =>
    clear H'
    try clear c2
    try clear p2
    obtain ⟨x5_1, x6_1, rfl, HA, HK1, HO_5, HB⟩ := hrel
    cases gk with
    | zero => (have HA2 := HA.out; clear HA; revert HA2; rw [refrainlaw5_filler.l0_zero]; intro h_; cases h_)
    | succ k1 =>
      have H := HA.out
      clear HA
      simp only [refrainlaw5_filler.l0] at H
      have HC3 := Aside0.mk H
      clear H
      go_upto_region 3 with (fail)
      go_cut [14] (fun v14 wc => ∃ (kq : Nat) (x14_2 : Bool), v14 = .bool x14_2 ∧ Aside0 (refrainlaw5_filler.j1 kq a0 a1 x5_1 x6_1 x14_2 = some r) ∧ Aside0 (kq ≤ k1) ∧ Aside0 (Kd.R (Kd.int .u8) 5 wc w.heap.size (fun _ => True) u5 x5_1) ∧ Aside0 (Below w.heap.size w wc))
      case first =>
        have H := HC3.out
        clear HC3
        by_cases c4 : x6_1 < (a1.size : Int)
        · rw [if_pos c4] at H
          have c4b0 : decide (x6_1 < (a1.size : Int)) = true := decide_eq_true c4
          clear c4
          (first | rw [c4b0] | (simp only [i64_w, i32_w, IntKind.wrap_u8, IntKind.wrap_u16, IntKind.wrap_u32]; rw [c4b0]) | skip)
          have H' := Aside0.mk H
          clear H
          go_wp2
          go_meet
          case rel => exact ⟨_, (decide (x6_1 < 20)), (by first | rfl | (simp; done) | (simp [*]; done) | (simp; unfold wrap64; omega) | (congr 1; (try rw [Bool.eq_iff_iff]); simp [List.isEmpty_iff]; done)), H', ⟨by have := HK1.out; first | omega | exact Nat.le_refl _⟩, ⟨by (with_reducible repeat (first | apply Kd.R_alloc | apply Kd.R_drewN | apply Kd.R_drew)); exact HO_5.out⟩, ⟨hbT HB.out⟩⟩
        · rw [if_neg c4] at H
          have c4b0 : decide (x6_1 < (a1.size : Int)) = false := decide_eq_false c4
          clear c4
          (first | rw [c4b0] | (simp only [i64_w, i32_w, IntKind.wrap_u8, IntKind.wrap_u16, IntKind.wrap_u32]; rw [c4b0]) | skip)
          have H' := Aside0.mk H
          clear H
          go_wp2
          go_meet
          case rel => exact ⟨_, (false), (by first | rfl | (simp; done) | (simp [*]; done) | (simp; unfold wrap64; omega) | (congr 1; (try rw [Bool.eq_iff_iff]); simp [List.isEmpty_iff]; done)), H', ⟨by have := HK1.out; first | omega | exact Nat.le_refl _⟩, ⟨by (with_reducible repeat (first | apply Kd.R_alloc | apply Kd.R_drewN | apply Kd.R_drew)); exact HO_5.out⟩, ⟨hbT HB.out⟩⟩
      case rest =>
        clear HC3
        try clear c2
        try clear p2
        try clear c4
        try clear c4b0
        try clear p2
        obtain ⟨kq, x14_2, rfl, HA, HJ2, HO_5, HB⟩ := hcut
        cases kq with
        | zero => (have HA2 := HA.out; clear HA; revert HA2; rw [refrainlaw5_filler.j1_zero]; intro h_; cases h_)
        | succ kj2 =>
          have H := HA.out
          clear HA
          simp only [refrainlaw5_filler.j1] at H
          by_cases c5 : x14_2 = true
          · subst c5
            have H1 : (if 0 ≤ x6_1 then (if x6_1 < (a1.size : Int) then (if (bt a1 x6_1) = 10 then (refrainlaw5_filler.l0 kj2 a0 a1 x5_1 (wrap64 (x6_1 + 1))) else (if x5_1.length < 140737488355328 then (refrainlaw5_filler.l0 kj2 a0 a1 (x5_1 ++ [bt a1 x6_1]) (wrap64 (x6_1 + 1))) else (none))) else (none)) else (none)) = some r := by rw [if_pos rfl] at H; exact H
            clear H
            have H := H1
            clear H1
            by_cases c6 : 0 ≤ x6_1
            · rw [if_pos c6] at H
              have c6b0 : decide (0 ≤ x6_1) = true := decide_eq_true c6
              clear c6
              by_cases c7 : x6_1 < (a1.size : Int)
              · rw [if_pos c7] at H
                have c7b0 : decide (x6_1 < (a1.size : Int)) = true := decide_eq_true c7
                clear c7
                by_cases c9 : (bt a1 x6_1) = 10
                · rw [if_pos c9] at H
                  have c9b0 : ((bt a1 x6_1) == 10) = true := beq_iff_eq.mpr c9
                  have c9b1 : ((bt a1 x6_1) != 10) = false := bne_eq_false_iff_eq.mpr c9
                  clear c9
                  have H' := Aside0.mk H
                  clear H
                  have p8 : 0 ≤ (x6_1 : Int) := of_decide_eq_true (by first | (with_reducible assumption) | assumption)
                  have q8 : x6_1 < (a1.size : Int) := of_decide_eq_true (by first | (with_reducible assumption) | assumption)
                  have hx8 := bt_at a1 x6_1
                  replace p8 := eq_true p8
                  replace q8 := eq_true q8
                  go_wp2
                  go_roundg kj2
                  case measure => have := HK1.out; have := HJ2.out; omega
                  case rel => exact ⟨(x5_1), (wrap64 (x6_1 + 1)), (by first | rfl | (simp; done) | (simp [*]; done) | (simp; unfold wrap64; omega) | (congr 1; (try rw [Bool.eq_iff_iff]); simp [List.isEmpty_iff]; done)), H', ⟨by have := HK1.out; have := HJ2.out; omega⟩, ⟨by (with_reducible repeat (first | apply Kd.R_alloc | apply Kd.R_drewN | apply Kd.R_drew)); exact HO_5.out⟩, ⟨hbT HB.out⟩⟩
                · rw [if_neg c9] at H
                  have c9b0 : ((bt a1 x6_1) == 10) = false := beq_eq_false_iff_ne.mpr c9
                  have c9b1 : ((bt a1 x6_1) != 10) = true := bne_iff_ne.mpr c9
                  by_cases c11 : x5_1.length < 140737488355328
                  · rw [if_pos c11] at H
                    have LMc11 := Aside0.mk c11
                    clear c11
                    obtain ⟨y453, hy453⟩ : ∃ y_ : List Int, y_ = (x5_1 ++ [bt a1 x6_1]) := ⟨_, rfl⟩
                    replace H : (refrainlaw5_filler.l0 kj2 a0 a1 y453 (wrap64 (x6_1 + 1))) = some r := by first | (rw [hy453]; with_reducible exact H) | (have H2_ := (Option.bind_some _ _).symm.trans H; rw [hy453]; with_reducible exact H2_) | (have H2_ := (Option.bind_some _ _).symm.trans H; with_reducible exact H2_) | with_reducible exact H | (rw [hy453]; exact H) | exact H
                    have Ny453 := Aside0.mk hy453
                    clear hy453
                    have H' := Aside0.mk H
                    clear H
                    have p8 : 0 ≤ (x6_1 : Int) := of_decide_eq_true (by first | (with_reducible assumption) | assumption)
                    have q8 : x6_1 < (a1.size : Int) := of_decide_eq_true (by first | (with_reducible assumption) | assumption)
                    have hx8 := bt_at a1 x6_1
                    replace p8 := eq_true p8
                    replace q8 := eq_true q8
                    have p10 : 0 ≤ (x6_1 : Int) := of_decide_eq_true (by first | (with_reducible assumption) | assumption)
                    have q10 : x6_1 < (a1.size : Int) := of_decide_eq_true (by first | (with_reducible assumption) | assumption)
                    have hx10 := bt_at a1 x6_1
                    replace p10 := eq_true p10
                    replace q10 := eq_true q10
                    go_wp2_with (first | ((with_reducible refine gate_builtin (b := .append) (xs := #[.tmp 21, .tmp 25]) rfl ?_); at_builtin; refine Kd.R_append (Kd.int .u8) (w0 := w) w.heap.size rfl (.tmp 21) (.tmp 25) 39 5 (.int .u8 0) 1 rfl Tryd.underlying39 info5 rfl (by decide) (by omega) u5 x5_1 (bt a1 x6_1) [.int .u8 (bt a1 x6_1)] (fun _ => True) (fun _ => False) rfl rfl ?aP (fun _ hk => hk.elim) ?aF ?aO ?aB ?aS ?aL ?_; (case aP => exact rfl); (case aB => exact (hbT HB.out)); (case aF => exact (fun _ _ => trivial)); (case aO => exact (by (with_reducible repeat (first | apply Kd.R_alloc | apply Kd.R_drewN | apply Kd.R_drew)); exact HO_5.out)); (case aS => exact (below_size (hbT HB.out))); (case aL => have := LMc11.out; omega); intro v454 w12 ho hb hg hat; rw [← Ny453.out] at ho; have n0_ := Aside0.mk (hb); have n1_ := Aside0.mk (ho); clear HB; clear HO_5; have HB := n0_; have HO455 := n1_; clear n0_ n1_; clear ho hb hg hat))
                    go_roundg kj2
                    case measure => have := HK1.out; have := HJ2.out; omega
                    case rel => exact ⟨(y453), (wrap64 (x6_1 + 1)), (by first | rfl | (simp; done) | (simp [*]; done) | (simp; unfold wrap64; omega) | (congr 1; (try rw [Bool.eq_iff_iff]); simp [List.isEmpty_iff]; done)), H', ⟨by have := HK1.out; have := HJ2.out; omega⟩, ⟨by (with_reducible repeat (first | apply Kd.R_alloc | apply Kd.R_drewN | apply Kd.R_drew)); exact HO455.out⟩, ⟨hbT HB.out⟩⟩
                  · rw [if_neg c11] at H
                    exact absurd H (by simp)
              · rw [if_neg c7] at H
                exact absurd H (by simp)
            · rw [if_neg c6] at H
              exact absurd H (by simp)
          · replace c5 := Bool.eq_false_iff.mpr c5
            subst c5
            have H1 : (if (Int.tmod a0 5) = 0 then (some (⟨#[10]⟩ : ByteArray)) else (if (Int.tmod a0 5) = 1 then (some (⟨#[9, 32, 13, 10]⟩ : ByteArray)) else (if (Int.tmod a0 5) = 2 then (if 3 + (strOfNums x5_1).size ≤ 9223372036854775807 then (if ((⟨#[32, 45, 45]⟩ : ByteArray) ++ (strOfNums x5_1)).size + 1 ≤ 9223372036854775807 then (some (((⟨#[32, 45, 45]⟩ : ByteArray) ++ (strOfNums x5_1)) ++ (⟨#[10]⟩ : ByteArray))) else (none)) else (none)) else (if (Int.tmod a0 5) = 3 then (if 8 + (strOfNums x5_1).size ≤ 9223372036854775807 then (if ((⟨#[32, 45, 45, 32, 120, 10, 45, 45]⟩ : ByteArray) ++ (strOfNums x5_1)).size + 2 ≤ 9223372036854775807 then (some (((⟨#[32, 45, 45, 32, 120, 10, 45, 45]⟩ : ByteArray) ++ (strOfNums x5_1)) ++ (⟨#[10, 32]⟩ : ByteArray))) else (none)) else (none)) else (some (⟨#[32, 32]⟩ : ByteArray)))))) = some r := by rw [if_neg (show ¬ (false = true) by decide)] at H; exact H
            clear H
            have H := H1
            clear H1
            by_cases c13 : (Int.tmod a0 5) = 0
            · rw [if_pos c13] at H
              have c13b0 : ((Int.tmod a0 5) == 0) = true := beq_iff_eq.mpr c13
              have c13b1 : ((Int.tmod a0 5) != 0) = false := bne_eq_false_iff_eq.mpr c13
              clear c13
              obtain rfl := Option.some.inj H
              go_wp2
              go_ret
              exact ⟨by first | rfl | (simp [errW_none, errW_some] <;> rfl) | (simp [*, errW_none, errW_some] <;> rfl), hbT HB.out⟩
            · rw [if_neg c13] at H
              have c13b0 : ((Int.tmod a0 5) == 0) = false := beq_eq_false_iff_ne.mpr c13
              have c13b1 : ((Int.tmod a0 5) != 0) = true := bne_iff_ne.mpr c13
              by_cases c14 : (Int.tmod a0 5) = 1
              · rw [if_pos c14] at H
                have c14b0 : ((Int.tmod a0 5) == 1) = true := beq_iff_eq.mpr c14
                have c14b1 : ((Int.tmod a0 5) != 1) = false := bne_eq_false_iff_eq.mpr c14
                clear c14
                obtain rfl := Option.some.inj H
                go_wp2
                go_ret
                exact ⟨by first | rfl | (simp [errW_none, errW_some] <;> rfl) | (simp [*, errW_none, errW_some] <;> rfl), hbT HB.out⟩
              · rw [if_neg c14] at H
                have c14b0 : ((Int.tmod a0 5) == 1) = false := beq_eq_false_iff_ne.mpr c14
                have c14b1 : ((Int.tmod a0 5) != 1) = true := bne_iff_ne.mpr c14
                by_cases c15 : (Int.tmod a0 5) = 2
                · rw [if_pos c15] at H
                  have c15b0 : ((Int.tmod a0 5) == 2) = true := beq_iff_eq.mpr c15
                  have c15b1 : ((Int.tmod a0 5) != 2) = false := bne_eq_false_iff_eq.mpr c15
                  clear c15
                  by_cases c16 : 3 + (strOfNums x5_1).size ≤ 9223372036854775807
                  · rw [if_pos c16] at H
                    have c16b0 := eq_true c16
                    have c16b1 : decide (3 + (strOfNums x5_1).size ≤ 9223372036854775807) = true := decide_eq_true c16
                    try have c16b2 : (9223372036854775807 < 3 + (strOfNums x5_1).size) = False := eq_false (Nat.not_lt.2 c16)
                    by_cases c17 : ((⟨#[32, 45, 45]⟩ : ByteArray) ++ (strOfNums x5_1)).size + 1 ≤ 9223372036854775807
                    · rw [if_pos c17] at H
                      have c17b0 := eq_true c17
                      try (have c17s0 := c17; simp only [ByteArray.size_append, ByteArray.size_extract, Nat.sub_zero, size_lit1, size_lit2, size_lit3, size_lit4, size_lit5, size_lit6, size_lit7, size_lit8] at c17s0; have c17s2 := eq_false (Nat.not_lt.2 c17s0); replace c17s0 := eq_true c17s0)
                      have c17b1 : decide (((⟨#[32, 45, 45]⟩ : ByteArray) ++ (strOfNums x5_1)).size + 1 ≤ 9223372036854775807) = true := decide_eq_true c17
                      try have c17b2 : (9223372036854775807 < ((⟨#[32, 45, 45]⟩ : ByteArray) ++ (strOfNums x5_1)).size + 1) = False := eq_false (Nat.not_lt.2 c17)
                      obtain rfl := Option.some.inj H
                      have hcv18 := own_string (P := Tryd.prog) Tryd.underlying39 Tryd.underlying5 Tryd.underlying9 (Kd.own_of_R HO_5.out)
                      go_wp2
                      go_ret
                      exact ⟨by first | rfl | (simp [errW_none, errW_some] <;> rfl) | (simp [*, errW_none, errW_some] <;> rfl), hbT HB.out⟩
                    · rw [if_neg c17] at H
                      exact absurd H (by simp)
                  · rw [if_neg c16] at H
                    exact absurd H (by simp)
                · rw [if_neg c15] at H
                  have c15b0 : ((Int.tmod a0 5) == 2) = false := beq_eq_false_iff_ne.mpr c15
                  have c15b1 : ((Int.tmod a0 5) != 2) = true := bne_iff_ne.mpr c15
                  by_cases c19 : (Int.tmod a0 5) = 3
                  · rw [if_pos c19] at H
                    have c19b0 : ((Int.tmod a0 5) == 3) = true := beq_iff_eq.mpr c19
                    have c19b1 : ((Int.tmod a0 5) != 3) = false := bne_eq_false_iff_eq.mpr c19
                    clear c19
                    by_cases c20 : 8 + (strOfNums x5_1).size ≤ 9223372036854775807
                    · rw [if_pos c20] at H
                      have c20b0 := eq_true c20
                      have c20b1 : decide (8 + (strOfNums x5_1).size ≤ 9223372036854775807) = true := decide_eq_true c20
                      try have c20b2 : (9223372036854775807 < 8 + (strOfNums x5_1).size) = False := eq_false (Nat.not_lt.2 c20)
                      by_cases c21 : ((⟨#[32, 45, 45, 32, 120, 10, 45, 45]⟩ : ByteArray) ++ (strOfNums x5_1)).size + 2 ≤ 9223372036854775807
                      · rw [if_pos c21] at H
                        have c21b0 := eq_true c21
                        try (have c21s0 := c21; simp only [ByteArray.size_append, ByteArray.size_extract, Nat.sub_zero, size_lit1, size_lit2, size_lit3, size_lit4, size_lit5, size_lit6, size_lit7, size_lit8] at c21s0; have c21s2 := eq_false (Nat.not_lt.2 c21s0); replace c21s0 := eq_true c21s0)
                        have c21b1 : decide (((⟨#[32, 45, 45, 32, 120, 10, 45, 45]⟩ : ByteArray) ++ (strOfNums x5_1)).size + 2 ≤ 9223372036854775807) = true := decide_eq_true c21
                        try have c21b2 : (9223372036854775807 < ((⟨#[32, 45, 45, 32, 120, 10, 45, 45]⟩ : ByteArray) ++ (strOfNums x5_1)).size + 2) = False := eq_false (Nat.not_lt.2 c21)
                        obtain rfl := Option.some.inj H
                        have hcv22 := own_string (P := Tryd.prog) Tryd.underlying39 Tryd.underlying5 Tryd.underlying9 (Kd.own_of_R HO_5.out)
                        go_wp2
                        go_ret
                        exact ⟨by first | rfl | (simp [errW_none, errW_some] <;> rfl) | (simp [*, errW_none, errW_some] <;> rfl), hbT HB.out⟩
                      · rw [if_neg c21] at H
                        exact absurd H (by simp)
                    · rw [if_neg c20] at H
                      exact absurd H (by simp)
                  · rw [if_neg c19] at H
                    have c19b0 : ((Int.tmod a0 5) == 3) = false := beq_eq_false_iff_ne.mpr c19
                    have c19b1 : ((Int.tmod a0 5) != 3) = true := bne_iff_ne.mpr c19
                    obtain rfl := Option.some.inj H
                    go_wp2
                    go_ret
                    exact ⟨by first | rfl | (simp [errW_none, errW_some] <;> rfl) | (simp [*, errW_none, errW_some] <;> rfl), hbT HB.out⟩

end Go.Proofs.YthmcapdakplhdaaDoor.Pr

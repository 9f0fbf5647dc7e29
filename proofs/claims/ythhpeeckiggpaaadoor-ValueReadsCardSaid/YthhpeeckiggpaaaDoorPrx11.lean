-- printed by a patched copy of the kit's print, for this seat
import Derived.Test.YthhpeeckiggpaaaDoorPrx0
import Derived.Test.YthhpeeckiggpaaaDoorPrx10
namespace Go.Proofs.YthhpeeckiggpaaaDoor.Pr
open Go.RowKit Go.Proofs.YthhpeeckiggpaaaDoorW.PrintWords Go.Proofs.YthhpeeckiggpaaaDoorW.PrintLast Go.Proofs.YthhpeeckiggpaaaDoorW.PrintMore
attribute [local go_sem] max2_int min2_int max_two min_two max_three min_three max_four min_four   -- for this text's walks alone
attribute [local go_sem high] Go.Proofs.YthhpeeckiggpaaaDoor.isSome_setCell
set_option maxRecDepth 100000
set_option linter.unusedVariables false
set_option linter.unusedSimpArgs false

/-! ### refrainref1_unquoted: function 37 -/
mutual
def refrainref1_unquoted.l0 : Nat → ByteArray → List Int → Int → Option (Int × Int × ByteArray × Bool)
  | 0, _, _, _ => none
  | k + 1, x0, x3, x4 => if x4 < (wrap64 ((x0.size : Int) - 1)) then (if 0 ≤ x4 then (if x4 < (x0.size : Int) then (if (bt x0 x4) = 92 then (refrainref1_unquoted.j1 k x0 x3 x4 (bt x0 x4) (decide ((wrap64 (x4 + 1)) ≥ (wrap64 ((x0.size : Int) - 1))))) else (refrainref1_unquoted.j1 k x0 x3 x4 (bt x0 x4) true)) else (none)) else (none)) else (some (2, 0, strOfNums x3, false))
def refrainref1_unquoted.j1 : Nat → ByteArray → List Int → Int → Int → Bool → Option (Int × Int × ByteArray × Bool)
  | 0, _, _, _, _, _ => none
  | k + 1, x0, x3, x4, x5, x25 => if x25 = true then (if x3.length < 140737488355328 then (refrainref1_unquoted.l0 k x0 (x3 ++ [x5]) (wrap64 (x4 + 1))) else (none)) else (if 0 ≤ (wrap64 (x4 + 1)) then (if (wrap64 (x4 + 1)) < (x0.size : Int) then (if (bt x0 (wrap64 (x4 + 1))) = 110 then (if x3.length < 140737488355328 then (refrainref1_unquoted.l0 k x0 (x3 ++ [10]) (wrap64 ((wrap64 (x4 + 1)) + 1))) else (none)) else (if (bt x0 (wrap64 (x4 + 1))) = 116 then (if x3.length < 140737488355328 then (refrainref1_unquoted.l0 k x0 (x3 ++ [9]) (wrap64 ((wrap64 (x4 + 1)) + 1))) else (none)) else (if (bt x0 (wrap64 (x4 + 1))) = 120 then (refrainref1_unquoted.j2 k x0 x3 (wrap64 (x4 + 1)) (decide ((wrap64 ((wrap64 (x4 + 1)) + 2)) < (x0.size : Int)))) else (refrainref1_unquoted.j2 k x0 x3 (wrap64 (x4 + 1)) false)))) else (none)) else (none))
def refrainref1_unquoted.j2 : Nat → ByteArray → List Int → Int → Bool → Option (Int × Int × ByteArray × Bool)
  | 0, _, _, _, _ => none
  | k + 1, x0, x3, x4, x54 => if x54 = true then (if 0 ≤ (wrap64 (x4 + 1)) then (if (wrap64 (x4 + 1)) < (x0.size : Int) then ((refrainref1_nibble.f k (bt x0 (wrap64 (x4 + 1)))).bind fun t302 => (if 0 ≤ (wrap64 (x4 + 2)) then (if (wrap64 (x4 + 2)) < (x0.size : Int) then ((refrainref1_nibble.f k (bt x0 (wrap64 (x4 + 2)))).bind fun t303 => (if x3.length < 140737488355328 then (refrainref1_unquoted.l0 k x0 (x3 ++ [(wrap64 ((wrap64 (t302 * 16)) + t303)) % 256]) (wrap64 ((wrap64 (x4 + 2)) + 1))) else (none))) else (none)) else (none))) else (none)) else (none)) else (if 0 ≤ x4 then (if x4 < (x0.size : Int) then (if x3.length < 140737488355328 then (refrainref1_unquoted.l0 k x0 (x3 ++ [bt x0 x4]) (wrap64 (x4 + 1))) else (none)) else (none)) else (none))
end
def refrainref1_unquoted.f (k : Nat) (a0 : ByteArray) : Option (Int × Int × ByteArray × Bool) := refrainref1_unquoted.l0 k a0 ([] : List Int) 1
set_option maxRecDepth 100000 in
theorem refrainref1_unquoted.l0_zero : ∀ y0 y1 y2, refrainref1_unquoted.l0 0 y0 y1 y2 = none := fun _ _ _ => rfl
set_option maxRecDepth 100000 in
theorem refrainref1_unquoted.j1_zero : ∀ y0 y1 y2 y3 y4, refrainref1_unquoted.j1 0 y0 y1 y2 y3 y4 = none := fun _ _ _ _ _ => rfl
set_option maxRecDepth 100000 in
theorem refrainref1_unquoted.j2_zero : ∀ y0 y1 y2 y3, refrainref1_unquoted.j2 0 y0 y1 y2 y3 = none := fun _ _ _ _ => rfl
set_option maxRecDepth 100000 in
theorem refrainref1_unquoted.mono_l : ∀ k, (∀ y0 y1 y2, LeO (refrainref1_unquoted.l0 k y0 y1 y2) (refrainref1_unquoted.l0 (k + 1) y0 y1 y2)) ∧ (∀ y0 y1 y2 y3 y4, LeO (refrainref1_unquoted.j1 k y0 y1 y2 y3 y4) (refrainref1_unquoted.j1 (k + 1) y0 y1 y2 y3 y4)) ∧ (∀ y0 y1 y2 y3, LeO (refrainref1_unquoted.j2 k y0 y1 y2 y3) (refrainref1_unquoted.j2 (k + 1) y0 y1 y2 y3))
  | 0 => ⟨fun _ _ _ r h => by (unfold refrainref1_unquoted.l0 at h; cases h), fun _ _ _ _ _ r h => by (unfold refrainref1_unquoted.j1 at h; cases h), fun _ _ _ _ r h => by (unfold refrainref1_unquoted.j2 at h; cases h)⟩
  | k + 1 => by
    obtain ⟨ih0, ih1, ih2⟩ := refrainref1_unquoted.mono_l k
    refine ⟨?_, ?_, ?_⟩
    · intro y0 y1 y2
      unfold refrainref1_unquoted.l0
      repeat' first
      | (with_reducible exact ih0 _ _ _)
      | (with_reducible exact ih1 _ _ _ _ _)
      | (with_reducible exact ih2 _ _ _ _)
      | (with_reducible exact refrainref1_nibble.mono _ _)
      | (with_reducible exact LeO.refl _)
      | (with_reducible exact LeO.none _)
      | (with_reducible refine LeO.ite ?_ ?_)
      | (with_reducible refine LeO.bind ?_ (fun _ => ?_))
      | exact ih0 _ _ _
      | exact ih1 _ _ _ _ _
      | exact ih2 _ _ _ _
      | exact refrainref1_nibble.mono _ _
      | exact LeO.none _
      | refine LeO.ite ?_ ?_
      | refine LeO.bind ?_ (fun _ => ?_)
    · intro y0 y1 y2 y3 y4
      unfold refrainref1_unquoted.j1
      repeat' first
      | (with_reducible exact ih0 _ _ _)
      | (with_reducible exact ih1 _ _ _ _ _)
      | (with_reducible exact ih2 _ _ _ _)
      | (with_reducible exact refrainref1_nibble.mono _ _)
      | (with_reducible exact LeO.refl _)
      | (with_reducible exact LeO.none _)
      | (with_reducible refine LeO.ite ?_ ?_)
      | (with_reducible refine LeO.bind ?_ (fun _ => ?_))
      | exact ih0 _ _ _
      | exact ih1 _ _ _ _ _
      | exact ih2 _ _ _ _
      | exact refrainref1_nibble.mono _ _
      | exact LeO.none _
      | refine LeO.ite ?_ ?_
      | refine LeO.bind ?_ (fun _ => ?_)
    · intro y0 y1 y2 y3
      unfold refrainref1_unquoted.j2
      repeat' first
      | (with_reducible exact ih0 _ _ _)
      | (with_reducible exact ih1 _ _ _ _ _)
      | (with_reducible exact ih2 _ _ _ _)
      | (with_reducible exact refrainref1_nibble.mono _ _)
      | (with_reducible exact LeO.refl _)
      | (with_reducible exact LeO.none _)
      | (with_reducible refine LeO.ite ?_ ?_)
      | (with_reducible refine LeO.bind ?_ (fun _ => ?_))
      | exact ih0 _ _ _
      | exact ih1 _ _ _ _ _
      | exact ih2 _ _ _ _
      | exact refrainref1_nibble.mono _ _
      | exact LeO.none _
      | refine LeO.ite ?_ ?_
      | refine LeO.bind ?_ (fun _ => ?_)
set_option maxRecDepth 100000 in
theorem refrainref1_unquoted.mono : ∀ a0 k, LeO (refrainref1_unquoted.f k a0) (refrainref1_unquoted.f (k + 1) a0) := by
  intro a0 k
  obtain ⟨ih0, ih1, ih2⟩ := refrainref1_unquoted.mono_l k
  unfold refrainref1_unquoted.f
  repeat' first
      | (with_reducible exact ih0 _ _ _)
      | (with_reducible exact ih1 _ _ _ _ _)
      | (with_reducible exact ih2 _ _ _ _)
      | (with_reducible exact refrainref1_nibble.mono _ _)
      | (with_reducible exact LeO.refl _)
      | (with_reducible exact LeO.none _)
      | (with_reducible refine LeO.ite ?_ ?_)
      | (with_reducible refine LeO.bind ?_ (fun _ => ?_))
      | exact ih0 _ _ _
      | exact ih1 _ _ _ _ _
      | exact ih2 _ _ _ _
      | exact refrainref1_nibble.mono _ _
      | exact LeO.none _
      | refine LeO.ite ?_ ?_
      | refine LeO.bind ?_ (fun _ => ?_)
def refrainref1_unquoted.T15 : Bool × List (List Nat × List Nat) := (true, [([], []), ([], []), ([], []), ([2], [2]), ([1, 3], [1, 3]), ([4], [4]), ([5], [5]), ([], []), ([], []), ([8], [8]), ([7, 9], [7, 9]), ([10, 5], [10]), ([6, 11], [6, 11]), ([12], [12]), ([13], [13]), ([0, 14, 11], [0, 14]), ([15, 15, 0, 1, 2, 3, 4, 5, 6, 7, 8, 9, 10, 11, 12, 13, 14, 15], [0, 15])])
def refrainref1_unquoted.B15 : List Nat := [0, 0, 0, 4, 14, 30, 62, 0, 0, 256, 896, 1982, 4094, 8190, 16382, 32767, 65535]
theorem refrainref1_unquoted.tab15 : rtab .any (opsOf Tryd.f37 15) = refrainref1_unquoted.T15 := by kernel_rfl
theorem refrainref1_unquoted.bits15 : waitsOk refrainref1_unquoted.T15.2 refrainref1_unquoted.B15 = true := by kernel_rfl
set_option maxHeartbeats 8000000 in
set_option maxRecDepth 100000 in
theorem refrainref1_unquoted.calls (k : Nat) (a0 : ByteArray) (r1 : Int) (r2 : Int) (r3 : ByteArray) (r4 : Bool) (w : World) (h : refrainref1_unquoted.f k a0 = some (r1, r2, r3, r4)) :
    Calls Tryd.prog 37 #[.string a0] w fun e w' => e = .returned (.agg #[.int .i64 r1, .int .i64 r2, .string r3, .bool r4]) ∧ Below w.heap.size w w' := by
  have hu26 := Tryd.underlying26
  have HB := Aside0.mk (Below.refl w.heap.size w)
  have H : (refrainref1_unquoted.l0 k a0 ([] : List Int) 1) = some (r1, r2, r3, r4) := h
  clear h
  have H' := Aside0.mk H
  clear H
  go_enter Tryd.func37, Tryd.ntmps37
  go_wp2_with (first | ((with_reducible refine gate_dst (N := 2) rfl ?_); (try (refine gate_guard (by rfl) ?_; dsimp only)); refine box_event ?hg (N := 2) ?hd (cs := #[.int .i64 0, .int .i64 0, .string (⟨#[]⟩ : ByteArray), .bool false]) (t := 26) ?hr ?_; (case hd => rfl); (case hg => rfl); (case hr => first | (go_simp; done) | (go_simp; rfl)); intro gb292 hg w2 hbox hb; have n0_ := Aside0.mk (below_step (by repeat (first | (with_reducible first | exact HB.out | apply below_alloc | apply pw_below_drewN | apply below_drew1) | exact HB.out)) hb); have n1_ := Aside0.mk (hbox); have n2_ := Aside0.mk ((by rw [hg]; exact (below_size (by repeat (first | (with_reducible first | exact HB.out | apply below_alloc | apply pw_below_drewN | apply below_drew1) | exact HB.out))) : w.heap.size ≤ gb292)); have n3_ := Aside0.mk ((by rw [hg]; exact (below_size (by repeat (first | (with_reducible first | exact HB.out | apply below_alloc | apply pw_below_drewN | apply below_drew1) | exact HB.out))) : w.heap.size ≤ gb292)); clear HB; have HB := n0_; have BK292 := n1_; have GW292 := n2_; have GE292 := n3_; clear n0_ n1_ n2_ n3_; clear hb hbox hg))
  go_loopg [3, 4] k (fun kq v3 v4 w' => ∃ (x3_1 : List Int) (x4_1 : Int), v4 = .int .i64 x4_1 ∧ Aside0 (refrainref1_unquoted.l0 kq a0 x3_1 x4_1 = some (r1, r2, r3, r4)) ∧ Aside0 (kq ≤ k) ∧ Aside0 (Kd.R (Kd.int .u8) 5 w' w.heap.size (fun _ => True) v3 x3_1) ∧ Aside0 (w'.heap[gb292]? = some (.cells #[.int .i64 0, .int .i64 0, .string (⟨#[]⟩ : ByteArray), .bool false] 26 (0, 0))) ∧ Aside0 (Below w.heap.size w w'))
  case atStart => exact ⟨(([] : List Int)), (1), (by first | rfl | (simp; done) | (simp [*]; done) | (simp; unfold wrap64; omega)), H', ⟨Nat.le_refl _⟩, ⟨by first | exact Kd.R_nil _ _ _ _ _ | exact Kd.N_nil _ _ _ _ _ | exact Kd.V_nil _ _ _ _ _ | exact Kd.Q_nil _ _ _ _ _ | exact Kd.S_nil _ _ _ _ _⟩, ⟨by (with_reducible repeat (first | refine blk_drewN ?_ _ | refine blk_drew ?_ | refine blk_alloc ?_ _)); exact BK292.out⟩, ⟨by repeat (first | (with_reducible first | exact HB.out | apply below_alloc | apply pw_below_drewN | apply below_drew1 | refine below_set ?_ GE292.out) | exact HB.out)⟩⟩
  case round =>
    clear H'
    try clear p2
    obtain ⟨x3_1, x4_1, rfl, HA, HK1, HO_3, BK292, HB⟩ := hrel
    cases gk with
    | zero => (have HA2 := HA.out; clear HA; revert HA2; rw [refrainref1_unquoted.l0_zero]; intro h_; cases h_)
    | succ k1 =>
      have H := HA.out
      clear HA
      simp only [refrainref1_unquoted.l0] at H
      by_cases c3 : x4_1 < (wrap64 ((a0.size : Int) - 1))
      · rw [if_pos c3] at H
        have c3b0 : decide (x4_1 < (wrap64 ((a0.size : Int) - 1))) = true := decide_eq_true c3
        clear c3
        by_cases c4 : 0 ≤ x4_1
        · rw [if_pos c4] at H
          have c4b0 : decide (0 ≤ x4_1) = true := decide_eq_true c4
          clear c4
          by_cases c5 : x4_1 < (a0.size : Int)
          · rw [if_pos c5] at H
            have c5b0 : decide (x4_1 < (a0.size : Int)) = true := decide_eq_true c5
            clear c5
            have HC7 := Aside0.mk H
            clear H
            have p6 : 0 ≤ (x4_1 : Int) := of_decide_eq_true (by first | (with_reducible assumption) | assumption)
            have q6 : x4_1 < (a0.size : Int) := of_decide_eq_true (by first | (with_reducible assumption) | assumption)
            have hx6 := bt_at a0 x4_1
            replace p6 := eq_true p6
            replace q6 := eq_true q6
            go_upto_region 6 with (fail)
            go_cut [25] (fun v25 wc => ∃ (kq : Nat) (x25_6 : Bool), v25 = .bool x25_6 ∧ Aside0 (refrainref1_unquoted.j1 kq a0 x3_1 x4_1 (bt a0 x4_1) x25_6 = some (r1, r2, r3, r4)) ∧ Aside0 (kq ≤ k1) ∧ Aside0 (Kd.R (Kd.int .u8) 5 wc w.heap.size (fun _ => True) u3 x3_1) ∧ Aside0 (wc.heap[gb292]? = some (.cells #[.int .i64 0, .int .i64 0, .string (⟨#[]⟩ : ByteArray), .bool false] 26 (0, 0))) ∧ Aside0 (Below w.heap.size w wc))
            case first =>
              have H := HC7.out
              clear HC7
              by_cases c8 : (bt a0 x4_1) = 92
              · rw [if_pos c8] at H
                have c8b0 : ((bt a0 x4_1) == 92) = true := beq_iff_eq.mpr c8
                have c8b1 : ((bt a0 x4_1) != 92) = false := bne_eq_false_iff_eq.mpr c8
                clear c8
                (first | rw [c8b0] | (simp only [i64_w, i32_w, IntKind.wrap_u8, IntKind.wrap_u16, IntKind.wrap_u32]; rw [c8b0]) | skip)
                have H' := Aside0.mk H
                clear H
                go_wp2
                go_meet
                case rel => exact ⟨_, (decide ((wrap64 (x4_1 + 1)) ≥ (wrap64 ((a0.size : Int) - 1)))), (by first | rfl | (simp; done) | (simp [*]; done) | (simp; unfold wrap64; omega)), H', ⟨by have := HK1.out; first | omega | exact Nat.le_refl _⟩, ⟨by (with_reducible repeat (first | apply Kd.R_alloc | apply Kd.R_drewN | apply Kd.R_drew)); exact HO_3.out⟩, ⟨by (with_reducible repeat (first | refine blk_drewN ?_ _ | refine blk_drew ?_ | refine blk_alloc ?_ _)); exact BK292.out⟩, ⟨by repeat (first | (with_reducible first | exact HB.out | apply below_alloc | apply pw_below_drewN | apply below_drew1 | refine below_set ?_ GE292.out) | exact HB.out)⟩⟩
              · rw [if_neg c8] at H
                have c8b0 : ((bt a0 x4_1) == 92) = false := beq_eq_false_iff_ne.mpr c8
                have c8b1 : ((bt a0 x4_1) != 92) = true := bne_iff_ne.mpr c8
                (first | rw [c8b0] | (simp only [i64_w, i32_w, IntKind.wrap_u8, IntKind.wrap_u16, IntKind.wrap_u32]; rw [c8b0]) | skip)
                have H' := Aside0.mk H
                clear H
                go_wp2
                go_meet
                case rel => exact ⟨_, (true), (by first | rfl | (simp; done) | (simp [*]; done) | (simp; unfold wrap64; omega)), H', ⟨by have := HK1.out; first | omega | exact Nat.le_refl _⟩, ⟨by (with_reducible repeat (first | apply Kd.R_alloc | apply Kd.R_drewN | apply Kd.R_drew)); exact HO_3.out⟩, ⟨by (with_reducible repeat (first | refine blk_drewN ?_ _ | refine blk_drew ?_ | refine blk_alloc ?_ _)); exact BK292.out⟩, ⟨by repeat (first | (with_reducible first | exact HB.out | apply below_alloc | apply pw_below_drewN | apply below_drew1 | refine below_set ?_ GE292.out) | exact HB.out)⟩⟩
            case rest =>
              clear HC7
              try clear p2
              try clear c3
              try clear c3b0
              try clear c4
              try clear c4b0
              try clear c5
              try clear c5b0
              try clear p6
              try clear q6
              try clear hx6
              try clear c8
              try clear c8b0
              try clear c8b1
              try clear p2
              try clear p6
              try clear q6
              obtain ⟨kq, x25_6, rfl, HA, HJ6, HO_3, BK292, HB⟩ := hcut
              cases kq with
              | zero => (have HA2 := HA.out; clear HA; revert HA2; rw [refrainref1_unquoted.j1_zero]; intro h_; cases h_)
              | succ kj6 =>
                have H := HA.out
                clear HA
                simp only [refrainref1_unquoted.j1] at H
                by_cases c9 : x25_6 = true
                · subst c9
                  have H1 : (if x3_1.length < 140737488355328 then (refrainref1_unquoted.l0 kj6 a0 (x3_1 ++ [(bt a0 x4_1)]) (wrap64 (x4_1 + 1))) else (none)) = some (r1, r2, r3, r4) := by rw [if_pos rfl] at H; exact H
                  clear H
                  have H := H1
                  clear H1
                  by_cases c10 : x3_1.length < 140737488355328
                  · rw [if_pos c10] at H
                    have LMc10 := Aside0.mk c10
                    clear c10
                    obtain ⟨y293, hy293⟩ : ∃ y_ : List Int, y_ = (x3_1 ++ [(bt a0 x4_1)]) := ⟨_, rfl⟩
                    replace H : (refrainref1_unquoted.l0 kj6 a0 y293 (wrap64 (x4_1 + 1))) = some (r1, r2, r3, r4) := by first | (rw [hy293]; with_reducible exact H) | (have H2_ := (Option.bind_some _ _).symm.trans H; rw [hy293]; with_reducible exact H2_) | (have H2_ := (Option.bind_some _ _).symm.trans H; with_reducible exact H2_) | with_reducible exact H | (rw [hy293]; exact H) | exact H
                    have Ny293 := Aside0.mk hy293
                    clear hy293
                    have H' := Aside0.mk H
                    clear H
                    go_wp2_with (first | ((with_reducible refine gate_builtin (b := .append) (xs := #[.tmp 26, .tmp 28]) rfl ?_); (try (refine gate_guard (by rfl) ?_; dsimp only)); at_builtin; refine Kd.R_append (Kd.int .u8) (w0 := w) w.heap.size rfl (.tmp 26) (.tmp 28) 70 5 (.int .u8 0) 1 rfl Tryd.underlying70 info5 rfl (by decide) (by omega) u3 x3_1 (bt a0 x4_1) [.int .u8 (bt a0 x4_1)] (fun _ => True) (fun _ => False) rfl rfl ?aP (fun _ hk => hk.elim) ?aF ?aO ?aB ?aS ?aL ?_; (case aP => exact rfl); (case aB => exact (by repeat (first | (with_reducible first | exact HB.out | apply below_alloc | apply pw_below_drewN | apply below_drew1 | refine below_set ?_ GE292.out) | exact HB.out))); (case aF => exact (fun _ _ => trivial)); (case aO => exact (by (with_reducible repeat (first | apply Kd.R_alloc | apply Kd.R_drewN | apply Kd.R_drew)); exact HO_3.out)); (case aS => exact (below_size (by repeat (first | (with_reducible first | exact HB.out | apply below_alloc | apply pw_below_drewN | apply below_drew1 | refine below_set ?_ GE292.out) | exact HB.out)))); (case aL => have := LMc10.out; omega); intro v294 w11 ho hb hg hat; rw [← Ny293.out] at ho; have n0_ := Aside0.mk (blk_grown (g := gb292) (o := .cells #[.int .i64 0, .int .i64 0, .string (⟨#[]⟩ : ByteArray), .bool false] 26 (0, 0)) (by (with_reducible repeat (first | refine blk_drewN ?_ _ | refine blk_drew ?_ | refine blk_alloc ?_ _)); exact BK292.out) hg (Kd.R_ne HO_3.out BK292.out (by decide))); have n1_ := Aside0.mk (hb); have n2_ := Aside0.mk (ho); clear BK292; clear HB; clear HO_3; have BK292 := n0_; have HB := n1_; have HO295 := n2_; clear n0_ n1_ n2_; clear ho hb hg hat))
                    go_roundg kj6
                    case measure => have := HK1.out; have := HJ6.out; omega
                    case rel => exact ⟨(y293), (wrap64 (x4_1 + 1)), (by first | rfl | (simp; done) | (simp [*]; done) | (simp; unfold wrap64; omega)), H', ⟨by have := HK1.out; have := HJ6.out; omega⟩, ⟨by (with_reducible repeat (first | apply Kd.R_alloc | apply Kd.R_drewN | apply Kd.R_drew)); exact HO295.out⟩, ⟨by (with_reducible repeat (first | refine blk_drewN ?_ _ | refine blk_drew ?_ | refine blk_alloc ?_ _)); exact BK292.out⟩, ⟨by repeat (first | (with_reducible first | exact HB.out | apply below_alloc | apply pw_below_drewN | apply below_drew1 | refine below_set ?_ GE292.out) | exact HB.out)⟩⟩
                  · rw [if_neg c10] at H
                    exact absurd H (by simp)
                · replace c9 := Bool.eq_false_iff.mpr c9
                  subst c9
                  have H1 : (if 0 ≤ (wrap64 (x4_1 + 1)) then (if (wrap64 (x4_1 + 1)) < (a0.size : Int) then (if (bt a0 (wrap64 (x4_1 + 1))) = 110 then (if x3_1.length < 140737488355328 then (refrainref1_unquoted.l0 kj6 a0 (x3_1 ++ [10]) (wrap64 ((wrap64 (x4_1 + 1)) + 1))) else (none)) else (if (bt a0 (wrap64 (x4_1 + 1))) = 116 then (if x3_1.length < 140737488355328 then (refrainref1_unquoted.l0 kj6 a0 (x3_1 ++ [9]) (wrap64 ((wrap64 (x4_1 + 1)) + 1))) else (none)) else (if (bt a0 (wrap64 (x4_1 + 1))) = 120 then (refrainref1_unquoted.j2 kj6 a0 x3_1 (wrap64 (x4_1 + 1)) (decide ((wrap64 ((wrap64 (x4_1 + 1)) + 2)) < (a0.size : Int)))) else (refrainref1_unquoted.j2 kj6 a0 x3_1 (wrap64 (x4_1 + 1)) false)))) else (none)) else (none)) = some (r1, r2, r3, r4) := by rw [if_neg (show ¬ (false = true) by decide)] at H; exact H
                  clear H
                  have H := H1
                  clear H1
                  obtain ⟨ji12, hji12⟩ : ∃ j_ : Int, (wrap64 (x4_1 + 1)) = j_ := ⟨_, rfl⟩
                  replace H : (if 0 ≤ (ji12) then (if (ji12) < (a0.size : Int) then (if (bt a0 (ji12)) = 110 then (if x3_1.length < 140737488355328 then (refrainref1_unquoted.l0 kj6 a0 (x3_1 ++ [10]) (wrap64 ((ji12) + 1))) else (none)) else (if (bt a0 (ji12)) = 116 then (if x3_1.length < 140737488355328 then (refrainref1_unquoted.l0 kj6 a0 (x3_1 ++ [9]) (wrap64 ((ji12) + 1))) else (none)) else (if (bt a0 (ji12)) = 120 then (refrainref1_unquoted.j2 kj6 a0 x3_1 ji12 (decide ((wrap64 ((ji12) + 2)) < (a0.size : Int)))) else (refrainref1_unquoted.j2 kj6 a0 x3_1 ji12 false)))) else (none)) else (none)) = some (r1, r2, r3, r4) := by first | (rw [hji12] at H; exact H) | (simp only [hji12] at H ⊢; exact H)
                  have hji12w : (IntKind.i64.wrap (x4_1 + 1)) = ji12 := (i64_w _).trans hji12
                  by_cases c13 : 0 ≤ (ji12)
                  · rw [if_pos c13] at H
                    have c13b0 : decide (0 ≤ (ji12)) = true := decide_eq_true c13
                    clear c13
                    by_cases c14 : (ji12) < (a0.size : Int)
                    · rw [if_pos c14] at H
                      have c14b0 : decide ((ji12) < (a0.size : Int)) = true := decide_eq_true c14
                      clear c14
                      by_cases c16 : (bt a0 (ji12)) = 110
                      · rw [if_pos c16] at H
                        have c16b0 : ((bt a0 (ji12)) == 110) = true := beq_iff_eq.mpr c16
                        have c16b1 : ((bt a0 (ji12)) != 110) = false := bne_eq_false_iff_eq.mpr c16
                        clear c16
                        by_cases c17 : x3_1.length < 140737488355328
                        · rw [if_pos c17] at H
                          have LMc17 := Aside0.mk c17
                          clear c17
                          obtain ⟨y296, hy296⟩ : ∃ y_ : List Int, y_ = (x3_1 ++ [10]) := ⟨_, rfl⟩
                          replace H : (refrainref1_unquoted.l0 kj6 a0 y296 (wrap64 ((ji12) + 1))) = some (r1, r2, r3, r4) := by first | (rw [hy296]; with_reducible exact H) | (have H2_ := (Option.bind_some _ _).symm.trans H; rw [hy296]; with_reducible exact H2_) | (have H2_ := (Option.bind_some _ _).symm.trans H; with_reducible exact H2_) | with_reducible exact H | (rw [hy296]; exact H) | exact H
                          have Ny296 := Aside0.mk hy296
                          clear hy296
                          have H' := Aside0.mk H
                          clear H
                          have p15 : 0 ≤ ((ji12) : Int) := of_decide_eq_true (by first | (with_reducible assumption) | assumption)
                          have q15 : (ji12) < (a0.size : Int) := of_decide_eq_true (by first | (with_reducible assumption) | assumption)
                          have hx15 := bt_at a0 (ji12)
                          replace p15 := eq_true p15
                          replace q15 := eq_true q15
                          go_wp2_with (first | ((with_reducible refine gate_builtin (b := .append) (xs := #[.tmp 43, .tmp 44]) rfl ?_); (try (refine gate_guard (by rfl) ?_; dsimp only)); at_builtin; refine Kd.R_append (Kd.int .u8) (w0 := w) w.heap.size rfl (.tmp 43) (.tmp 44) 70 5 (.int .u8 0) 1 rfl Tryd.underlying70 info5 rfl (by decide) (by omega) u3 x3_1 10 [.int .u8 10] (fun _ => True) (fun _ => False) rfl rfl ?aP (fun _ hk => hk.elim) ?aF ?aO ?aB ?aS ?aL ?_; (case aP => exact rfl); (case aB => exact (by repeat (first | (with_reducible first | exact HB.out | apply below_alloc | apply pw_below_drewN | apply below_drew1 | refine below_set ?_ GE292.out) | exact HB.out))); (case aF => exact (fun _ _ => trivial)); (case aO => exact (by (with_reducible repeat (first | apply Kd.R_alloc | apply Kd.R_drewN | apply Kd.R_drew)); exact HO_3.out)); (case aS => exact (below_size (by repeat (first | (with_reducible first | exact HB.out | apply below_alloc | apply pw_below_drewN | apply below_drew1 | refine below_set ?_ GE292.out) | exact HB.out)))); (case aL => have := LMc17.out; omega); intro v297 w18 ho hb hg hat; rw [← Ny296.out] at ho; have n0_ := Aside0.mk (blk_grown (g := gb292) (o := .cells #[.int .i64 0, .int .i64 0, .string (⟨#[]⟩ : ByteArray), .bool false] 26 (0, 0)) (by (with_reducible repeat (first | refine blk_drewN ?_ _ | refine blk_drew ?_ | refine blk_alloc ?_ _)); exact BK292.out) hg (Kd.R_ne HO_3.out BK292.out (by decide))); have n1_ := Aside0.mk (hb); have n2_ := Aside0.mk (ho); clear BK292; clear HB; clear HO_3; have BK292 := n0_; have HB := n1_; have HO298 := n2_; clear n0_ n1_ n2_; clear ho hb hg hat))
                          go_roundg kj6
                          case measure => have := HK1.out; have := HJ6.out; omega
                          case rel => exact ⟨(y296), (wrap64 ((ji12) + 1)), (by first | rfl | (simp; done) | (simp only [← hji12] <;> (first | rfl | simp)) | (simp [*]; done)), H', ⟨by have := HK1.out; have := HJ6.out; omega⟩, ⟨by (with_reducible repeat (first | apply Kd.R_alloc | apply Kd.R_drewN | apply Kd.R_drew)); exact HO298.out⟩, ⟨by (with_reducible repeat (first | refine blk_drewN ?_ _ | refine blk_drew ?_ | refine blk_alloc ?_ _)); exact BK292.out⟩, ⟨by repeat (first | (with_reducible first | exact HB.out | apply below_alloc | apply pw_below_drewN | apply below_drew1 | refine below_set ?_ GE292.out) | exact HB.out)⟩⟩
                        · rw [if_neg c17] at H
                          exact absurd H (by simp)
                      · rw [if_neg c16] at H
                        have c16b0 : ((bt a0 (ji12)) == 110) = false := beq_eq_false_iff_ne.mpr c16
                        have c16b1 : ((bt a0 (ji12)) != 110) = true := bne_iff_ne.mpr c16
                        by_cases c20 : (bt a0 (ji12)) = 116
                        · rw [if_pos c20] at H
                          have c20b0 : ((bt a0 (ji12)) == 116) = true := beq_iff_eq.mpr c20
                          have c20b1 : ((bt a0 (ji12)) != 116) = false := bne_eq_false_iff_eq.mpr c20
                          clear c20
                          by_cases c21 : x3_1.length < 140737488355328
                          · rw [if_pos c21] at H
                            have LMc21 := Aside0.mk c21
                            clear c21
                            obtain ⟨y299, hy299⟩ : ∃ y_ : List Int, y_ = (x3_1 ++ [9]) := ⟨_, rfl⟩
                            replace H : (refrainref1_unquoted.l0 kj6 a0 y299 (wrap64 ((ji12) + 1))) = some (r1, r2, r3, r4) := by first | (rw [hy299]; with_reducible exact H) | (have H2_ := (Option.bind_some _ _).symm.trans H; rw [hy299]; with_reducible exact H2_) | (have H2_ := (Option.bind_some _ _).symm.trans H; with_reducible exact H2_) | with_reducible exact H | (rw [hy299]; exact H) | exact H
                            have Ny299 := Aside0.mk hy299
                            clear hy299
                            have H' := Aside0.mk H
                            clear H
                            have p15 : 0 ≤ ((ji12) : Int) := of_decide_eq_true (by first | (with_reducible assumption) | assumption)
                            have q15 : (ji12) < (a0.size : Int) := of_decide_eq_true (by first | (with_reducible assumption) | assumption)
                            have hx15 := bt_at a0 (ji12)
                            replace p15 := eq_true p15
                            replace q15 := eq_true q15
                            have p19 : 0 ≤ ((ji12) : Int) := of_decide_eq_true (by first | (with_reducible assumption) | assumption)
                            have q19 : (ji12) < (a0.size : Int) := of_decide_eq_true (by first | (with_reducible assumption) | assumption)
                            have hx19 := bt_at a0 (ji12)
                            replace p19 := eq_true p19
                            replace q19 := eq_true q19
                            go_wp2_with (first | ((with_reducible refine gate_builtin (b := .append) (xs := #[.tmp 51, .tmp 52]) rfl ?_); (try (refine gate_guard (by rfl) ?_; dsimp only)); at_builtin; refine Kd.R_append (Kd.int .u8) (w0 := w) w.heap.size rfl (.tmp 51) (.tmp 52) 70 5 (.int .u8 0) 1 rfl Tryd.underlying70 info5 rfl (by decide) (by omega) u3 x3_1 9 [.int .u8 9] (fun _ => True) (fun _ => False) rfl rfl ?aP (fun _ hk => hk.elim) ?aF ?aO ?aB ?aS ?aL ?_; (case aP => exact rfl); (case aB => exact (by repeat (first | (with_reducible first | exact HB.out | apply below_alloc | apply pw_below_drewN | apply below_drew1 | refine below_set ?_ GE292.out) | exact HB.out))); (case aF => exact (fun _ _ => trivial)); (case aO => exact (by (with_reducible repeat (first | apply Kd.R_alloc | apply Kd.R_drewN | apply Kd.R_drew)); exact HO_3.out)); (case aS => exact (below_size (by repeat (first | (with_reducible first | exact HB.out | apply below_alloc | apply pw_below_drewN | apply below_drew1 | refine below_set ?_ GE292.out) | exact HB.out)))); (case aL => have := LMc21.out; omega); intro v300 w22 ho hb hg hat; rw [← Ny299.out] at ho; have n0_ := Aside0.mk (blk_grown (g := gb292) (o := .cells #[.int .i64 0, .int .i64 0, .string (⟨#[]⟩ : ByteArray), .bool false] 26 (0, 0)) (by (with_reducible repeat (first | refine blk_drewN ?_ _ | refine blk_drew ?_ | refine blk_alloc ?_ _)); exact BK292.out) hg (Kd.R_ne HO_3.out BK292.out (by decide))); have n1_ := Aside0.mk (hb); have n2_ := Aside0.mk (ho); clear BK292; clear HB; clear HO_3; have BK292 := n0_; have HB := n1_; have HO301 := n2_; clear n0_ n1_ n2_; clear ho hb hg hat))
                            go_roundg kj6
                            case measure => have := HK1.out; have := HJ6.out; omega
                            case rel => exact ⟨(y299), (wrap64 ((ji12) + 1)), (by first | rfl | (simp; done) | (simp only [← hji12] <;> (first | rfl | simp)) | (simp [*]; done)), H', ⟨by have := HK1.out; have := HJ6.out; omega⟩, ⟨by (with_reducible repeat (first | apply Kd.R_alloc | apply Kd.R_drewN | apply Kd.R_drew)); exact HO301.out⟩, ⟨by (with_reducible repeat (first | refine blk_drewN ?_ _ | refine blk_drew ?_ | refine blk_alloc ?_ _)); exact BK292.out⟩, ⟨by repeat (first | (with_reducible first | exact HB.out | apply below_alloc | apply pw_below_drewN | apply below_drew1 | refine below_set ?_ GE292.out) | exact HB.out)⟩⟩
                          · rw [if_neg c21] at H
                            exact absurd H (by simp)
                        · rw [if_neg c20] at H
                          have c20b0 : ((bt a0 (ji12)) == 116) = false := beq_eq_false_iff_ne.mpr c20
                          have c20b1 : ((bt a0 (ji12)) != 116) = true := bne_iff_ne.mpr c20
                          have HC23 := Aside0.mk H
                          clear H
                          have p15 : 0 ≤ ((ji12) : Int) := of_decide_eq_true (by first | (with_reducible assumption) | assumption)
                          have q15 : (ji12) < (a0.size : Int) := of_decide_eq_true (by first | (with_reducible assumption) | assumption)
                          have hx15 := bt_at a0 (ji12)
                          replace p15 := eq_true p15
                          replace q15 := eq_true q15
                          have p19 : 0 ≤ ((ji12) : Int) := of_decide_eq_true (by first | (with_reducible assumption) | assumption)
                          have q19 : (ji12) < (a0.size : Int) := of_decide_eq_true (by first | (with_reducible assumption) | assumption)
                          have hx19 := bt_at a0 (ji12)
                          replace p19 := eq_true p19
                          replace q19 := eq_true q19
                          go_upto_region 14 with (fail)
                          go_cut [54] (fun v54 wc => ∃ (kq : Nat) (x54_22 : Bool), v54 = .bool x54_22 ∧ Aside0 (refrainref1_unquoted.j2 kq a0 x3_1 ji12 x54_22 = some (r1, r2, r3, r4)) ∧ Aside0 (kq ≤ kj6) ∧ Aside0 (Kd.R (Kd.int .u8) 5 wc w.heap.size (fun _ => True) u3 x3_1) ∧ Aside0 (wc.heap[gb292]? = some (.cells #[.int .i64 0, .int .i64 0, .string (⟨#[]⟩ : ByteArray), .bool false] 26 (0, 0))) ∧ Aside0 (Below w.heap.size w wc))
                          case first =>
                            have H := HC23.out
                            clear HC23
                            by_cases c25 : (bt a0 (ji12)) = 120
                            · rw [if_pos c25] at H
                              have c25b0 : ((bt a0 (ji12)) == 120) = true := beq_iff_eq.mpr c25
                              have c25b1 : ((bt a0 (ji12)) != 120) = false := bne_eq_false_iff_eq.mpr c25
                              clear c25
                              (first | rw [c25b0] | (simp only [i64_w, i32_w, IntKind.wrap_u8, IntKind.wrap_u16, IntKind.wrap_u32]; rw [c25b0]) | skip)
                              have H' := Aside0.mk H
                              clear H
                              have p24 : 0 ≤ ((ji12) : Int) := of_decide_eq_true (by first | (with_reducible assumption) | assumption)
                              have q24 : (ji12) < (a0.size : Int) := of_decide_eq_true (by first | (with_reducible assumption) | assumption)
                              have hx24 := bt_at a0 (ji12)
                              replace p24 := eq_true p24
                              replace q24 := eq_true q24
                              go_wp2
                              go_meet
                              case rel => exact ⟨_, (decide ((wrap64 ((ji12) + 2)) < (a0.size : Int))), (by first | rfl | (simp; done) | (simp only [← hji12] <;> (first | rfl | simp)) | (simp [*]; done)), H', ⟨by have := HK1.out; have := HJ6.out; first | omega | exact Nat.le_refl _⟩, ⟨by (with_reducible repeat (first | apply Kd.R_alloc | apply Kd.R_drewN | apply Kd.R_drew)); exact HO_3.out⟩, ⟨by (with_reducible repeat (first | refine blk_drewN ?_ _ | refine blk_drew ?_ | refine blk_alloc ?_ _)); exact BK292.out⟩, ⟨by repeat (first | (with_reducible first | exact HB.out | apply below_alloc | apply pw_below_drewN | apply below_drew1 | refine below_set ?_ GE292.out) | exact HB.out)⟩⟩
                            · rw [if_neg c25] at H
                              have c25b0 : ((bt a0 (ji12)) == 120) = false := beq_eq_false_iff_ne.mpr c25
                              have c25b1 : ((bt a0 (ji12)) != 120) = true := bne_iff_ne.mpr c25
                              (first | rw [c25b0] | (simp only [i64_w, i32_w, IntKind.wrap_u8, IntKind.wrap_u16, IntKind.wrap_u32]; rw [c25b0]) | skip)
                              have H' := Aside0.mk H
                              clear H
                              have p24 : 0 ≤ ((ji12) : Int) := of_decide_eq_true (by first | (with_reducible assumption) | assumption)
                              have q24 : (ji12) < (a0.size : Int) := of_decide_eq_true (by first | (with_reducible assumption) | assumption)
                              have hx24 := bt_at a0 (ji12)
                              replace p24 := eq_true p24
                              replace q24 := eq_true q24
                              go_wp2
                              go_meet
                              case rel => exact ⟨_, (false), (by first | rfl | (simp; done) | (simp [*]; done) | (simp; unfold wrap64; omega)), H', ⟨by have := HK1.out; have := HJ6.out; first | omega | exact Nat.le_refl _⟩, ⟨by (with_reducible repeat (first | apply Kd.R_alloc | apply Kd.R_drewN | apply Kd.R_drew)); exact HO_3.out⟩, ⟨by (with_reducible repeat (first | refine blk_drewN ?_ _ | refine blk_drew ?_ | refine blk_alloc ?_ _)); exact BK292.out⟩, ⟨by repeat (first | (with_reducible first | exact HB.out | apply below_alloc | apply pw_below_drewN | apply below_drew1 | refine below_set ?_ GE292.out) | exact HB.out)⟩⟩
                          case rest =>
                            clear HC23
                            try clear c1
                            try clear p1
                            try clear q1
                            try clear hx1
                            try clear c2
                            try clear p2
                            try clear q2
                            try clear hx2
                            try clear c3
                            try clear c3b0
                            try clear c4
                            try clear c4b0
                            try clear c5
                            try clear c5b0
                            try clear p6
                            try clear q6
                            try clear hx6
                            try clear c8
                            try clear c8b0
                            try clear c8b1
                            try clear c9
                            try clear c10
                            try clear c13
                            try clear c13b0
                            try clear c14
                            try clear c14b0
                            try clear p15
                            try clear q15
                            try clear hx15
                            try clear c16
                            try clear c16b0
                            try clear c16b1
                            try clear c17
                            try clear p19
                            try clear q19
                            try clear hx19
                            try clear c20
                            try clear c20b0
                            try clear c20b1
                            try clear c21
                            try clear p24
                            try clear q24
                            try clear hx24
                            try clear c25
                            try clear c25b0
                            try clear c25b1
                            try clear p15
                            try clear p19
                            try clear p2
                            try clear p24
                            try clear p6
                            try clear q15
                            try clear q19
                            try clear q24
                            try clear q6
                            obtain ⟨kq, x54_22, rfl, HA, HJ22, HO_3, BK292, HB⟩ := hcut
                            cases kq with
                            | zero => (have HA2 := HA.out; clear HA; revert HA2; rw [refrainref1_unquoted.j2_zero]; intro h_; cases h_)
                            | succ kj22 =>
                              have H := HA.out
                              clear HA
                              simp only [refrainref1_unquoted.j2] at H
                              by_cases c26 : x54_22 = true
                              · subst c26
                                have H1 : (if 0 ≤ (wrap64 (ji12 + 1)) then (if (wrap64 (ji12 + 1)) < (a0.size : Int) then ((refrainref1_nibble.f kj22 (bt a0 (wrap64 (ji12 + 1)))).bind fun t302 => (if 0 ≤ (wrap64 (ji12 + 2)) then (if (wrap64 (ji12 + 2)) < (a0.size : Int) then ((refrainref1_nibble.f kj22 (bt a0 (wrap64 (ji12 + 2)))).bind fun t303 => (if x3_1.length < 140737488355328 then (refrainref1_unquoted.l0 kj22 a0 (x3_1 ++ [(wrap64 ((wrap64 (t302 * 16)) + t303)) % 256]) (wrap64 ((wrap64 (ji12 + 2)) + 1))) else (none))) else (none)) else (none))) else (none)) else (none)) = some (r1, r2, r3, r4) := by rw [if_pos rfl] at H; exact H
                                clear H
                                have H := H1
                                clear H1
                                obtain ⟨ji27, hji27⟩ : ∃ j_ : Int, (wrap64 (ji12 + 1)) = j_ := ⟨_, rfl⟩
                                replace H : (if 0 ≤ (ji27) then (if (ji27) < (a0.size : Int) then ((refrainref1_nibble.f kj22 (bt a0 (ji27))).bind fun t302 => (if 0 ≤ (wrap64 (ji12 + 2)) then (if (wrap64 (ji12 + 2)) < (a0.size : Int) then ((refrainref1_nibble.f kj22 (bt a0 (wrap64 (ji12 + 2)))).bind fun t303 => (if x3_1.length < 140737488355328 then (refrainref1_unquoted.l0 kj22 a0 (x3_1 ++ [(wrap64 ((wrap64 (t302 * 16)) + t303)) % 256]) (wrap64 ((wrap64 (ji12 + 2)) + 1))) else (none))) else (none)) else (none))) else (none)) else (none)) = some (r1, r2, r3, r4) := by first | (rw [hji27] at H; exact H) | (simp only [hji27] at H ⊢; exact H)
                                have hji27w : (IntKind.i64.wrap (ji12 + 1)) = ji27 := (i64_w _).trans hji27
                                by_cases c28 : 0 ≤ (ji27)
                                · rw [if_pos c28] at H
                                  have c28b0 : decide (0 ≤ (ji27)) = true := decide_eq_true c28
                                  clear c28
                                  by_cases c29 : (ji27) < (a0.size : Int)
                                  · rw [if_pos c29] at H
                                    have c29b0 : decide ((ji27) < (a0.size : Int)) = true := decide_eq_true c29
                                    clear c29
                                    replace H := Option.bind_eq_some_iff.mp H
                                    obtain ⟨t302, A310, H⟩ := H
                                    replace H : (if 0 ≤ (wrap64 (ji12 + 2)) then (if (wrap64 (ji12 + 2)) < (a0.size : Int) then ((refrainref1_nibble.f kj22 (bt a0 (wrap64 (ji12 + 2)))).bind fun t303 => (if x3_1.length < 140737488355328 then (refrainref1_unquoted.l0 kj22 a0 (x3_1 ++ [(wrap64 ((wrap64 (t302 * 16)) + t303)) % 256]) (wrap64 ((wrap64 (ji12 + 2)) + 1))) else (none))) else (none)) else (none)) = some (r1, r2, r3, r4) := H
                                    have A31 := Aside0.mk A310
                                    clear A310
                                    obtain ⟨ji32, hji32⟩ : ∃ j_ : Int, (wrap64 (ji12 + 2)) = j_ := ⟨_, rfl⟩
                                    replace H : (if 0 ≤ (ji32) then (if (ji32) < (a0.size : Int) then ((refrainref1_nibble.f kj22 (bt a0 (ji32))).bind fun t303 => (if x3_1.length < 140737488355328 then (refrainref1_unquoted.l0 kj22 a0 (x3_1 ++ [(wrap64 ((wrap64 (t302 * 16)) + t303)) % 256]) (wrap64 ((ji32) + 1))) else (none))) else (none)) else (none)) = some (r1, r2, r3, r4) := by first | (rw [hji32] at H; exact H) | (simp only [hji32] at H ⊢; exact H)
                                    (try rw [hji32] at A31)
                                    have hji32w : (IntKind.i64.wrap (ji12 + 2)) = ji32 := (i64_w _).trans hji32
                                    by_cases c33 : 0 ≤ (ji32)
                                    · rw [if_pos c33] at H
                                      have c33b0 : decide (0 ≤ (ji32)) = true := decide_eq_true c33
                                      clear c33
                                      by_cases c34 : (ji32) < (a0.size : Int)
                                      · rw [if_pos c34] at H
                                        have c34b0 : decide ((ji32) < (a0.size : Int)) = true := decide_eq_true c34
                                        clear c34
                                        replace H := Option.bind_eq_some_iff.mp H
                                        obtain ⟨t303, A360, H⟩ := H
                                        replace H : (if x3_1.length < 140737488355328 then (refrainref1_unquoted.l0 kj22 a0 (x3_1 ++ [(wrap64 ((wrap64 (t302 * 16)) + t303)) % 256]) (wrap64 ((ji32) + 1))) else (none)) = some (r1, r2, r3, r4) := H
                                        have A36 := Aside0.mk A360
                                        clear A360
                                        by_cases c37 : x3_1.length < 140737488355328
                                        · rw [if_pos c37] at H
                                          have LMc37 := Aside0.mk c37
                                          clear c37
                                          obtain ⟨y304, hy304⟩ : ∃ y_ : List Int, y_ = (x3_1 ++ [(wrap64 ((wrap64 (t302 * 16)) + t303)) % 256]) := ⟨_, rfl⟩
                                          replace H : (refrainref1_unquoted.l0 kj22 a0 y304 (wrap64 ((ji32) + 1))) = some (r1, r2, r3, r4) := by first | (rw [hy304]; with_reducible exact H) | (have H2_ := (Option.bind_some _ _).symm.trans H; rw [hy304]; with_reducible exact H2_) | (have H2_ := (Option.bind_some _ _).symm.trans H; with_reducible exact H2_) | with_reducible exact H | (rw [hy304]; exact H) | exact H
                                          have Ny304 := Aside0.mk hy304
                                          clear hy304
                                          have H' := Aside0.mk H
                                          clear H
                                          try go_wp2
                                          have n0_ := Aside0.mk (Kd.R_drew HO_3.out)
                                          have n1_ := Aside0.mk (blk_drew BK292.out)
                                          have n2_ := Aside0.mk (below_drew1 HB.out)
                                          clear HO_3
                                          clear BK292
                                          clear HB
                                          have HO_3 := n0_
                                          have BK292 := n1_
                                          have HB := n2_
                                          clear n0_ n1_ n2_
                                          have p30 : 0 ≤ ((ji27) : Int) := of_decide_eq_true (by first | (with_reducible assumption) | assumption)
                                          have q30 : (ji27) < (a0.size : Int) := of_decide_eq_true (by first | (with_reducible assumption) | assumption)
                                          have hx30 := bt_at a0 (ji27)
                                          replace p30 := eq_true p30
                                          replace q30 := eq_true q30
                                          have p35 : 0 ≤ ((ji32) : Int) := of_decide_eq_true (by first | (with_reducible assumption) | assumption)
                                          have q35 : (ji32) < (a0.size : Int) := of_decide_eq_true (by first | (with_reducible assumption) | assumption)
                                          have hx35 := bt_at a0 (ji32)
                                          replace p35 := eq_true p35
                                          replace q35 := eq_true q35
                                          refine start_ (n := 17) (S := fun w' => True) (ds := []) #[false, false, false, false, false, false, false, false, false, false, false, false, false, false, false, false, false] (by kernel_rfl) rfl rfl trivial (fun hHeld => ?_); refine with_tabW refrainref1_unquoted.tab15 refrainref1_unquoted.bits15 (fun HT_ HW_ => ?_)
                                          generalize wc.drew = w38 at HO_3 BK292 HB hHeld ⊢
                                          refine pure_ (i := 0) (N := some 66) (v := ?_) (a' := ?_) #[true, false, false, false, false, false, false, false, false, false, false, false, false, false, false, false, false] rfl rfl (any_of HT_.out (by kernel_rfl)) (fun _ _ _ h => h) (Or.inl ⟨by rfl, ?_⟩) ?_ ?_
                                          rotate_left
                                          · intro w'
                                            go_simp
                                            with_reducible rfl
                                          rotate_left
                                          · simp only [Act.put, List.setIfInBounds_toArray, List.set_cons_zero, List.set_cons_succ, i64_w, i32_w, IntKind.wrap_u8, IntKind.wrap_u16, IntKind.wrap_u32]
                                            rfl
                                          refine pure_ (i := 1) (N := some 67) (v := ?_) (a' := ?_) #[true, true, false, false, false, false, false, false, false, false, false, false, false, false, false, false, false] rfl rfl (any_of HT_.out (by kernel_rfl)) (fun _ _ _ h => h) (Or.inl ⟨by rfl, ?_⟩) ?_ ?_
                                          rotate_left
                                          · intro w'
                                            go_simp
                                            with_reducible rfl
                                          rotate_left
                                          · simp only [Act.put, List.setIfInBounds_toArray, List.set_cons_zero, List.set_cons_succ, i64_w, i32_w, IntKind.wrap_u8, IntKind.wrap_u16, IntKind.wrap_u32]
                                            rfl
                                          refine pure_ (i := 2) (N := some 68) (v := ?_) (a' := ?_) #[true, true, true, false, false, false, false, false, false, false, false, false, false, false, false, false, false] rfl rfl (any_of HT_.out (by kernel_rfl)) (fun _ _ _ h => h) (Or.inl ⟨by rfl, ?_⟩) ?_ ?_
                                          rotate_left
                                          · intro w'
                                            go_simp
                                            with_reducible rfl
                                          rotate_left
                                          · simp only [Act.put, List.setIfInBounds_toArray, List.set_cons_zero, List.set_cons_succ, i64_w, i32_w, IntKind.wrap_u8, IntKind.wrap_u16, IntKind.wrap_u32]
                                            rfl
                                          refine pure_ (i := 3) (N := some 69) (v := ?_) (a' := ?_) #[true, true, true, true, false, false, false, false, false, false, false, false, false, false, false, false, false] rfl rfl (any_of HT_.out (by kernel_rfl)) (fun _ _ _ h => h) (Or.inl ⟨by rfl, ?_⟩) ?_ ?_
                                          rotate_left
                                          · intro w'
                                            go_simp
                                            with_reducible rfl
                                          rotate_left
                                          · simp only [Act.put, List.setIfInBounds_toArray, List.set_cons_zero, List.set_cons_succ, i64_w, i32_w, IntKind.wrap_u8, IntKind.wrap_u16, IntKind.wrap_u32]
                                            rfl
                                          refine pure_ (i := 7) (N := some 73) (v := ?_) (a' := ?_) #[true, true, true, true, false, false, false, true, false, false, false, false, false, false, false, false, false] rfl rfl (any_of HT_.out (by kernel_rfl)) (fun _ _ _ h => h) (Or.inl ⟨by rfl, ?_⟩) ?_ ?_
                                          rotate_left
                                          · intro w'
                                            go_simp
                                            with_reducible rfl
                                          rotate_left
                                          · simp only [Act.put, List.setIfInBounds_toArray, List.set_cons_zero, List.set_cons_succ, i64_w, i32_w, IntKind.wrap_u8, IntKind.wrap_u16, IntKind.wrap_u32]
                                            rfl
                                          refine pure_ (i := 8) (N := some 74) (v := ?_) (a' := ?_) #[true, true, true, true, false, false, false, true, true, false, false, false, false, false, false, false, false] rfl rfl (any_of HT_.out (by kernel_rfl)) (fun _ _ _ h => h) (Or.inl ⟨by rfl, ?_⟩) ?_ ?_
                                          rotate_left
                                          · intro w'
                                            go_simp
                                            with_reducible rfl
                                          rotate_left
                                          · simp only [Act.put, List.setIfInBounds_toArray, List.set_cons_zero, List.set_cons_succ, i64_w, i32_w, IntKind.wrap_u8, IntKind.wrap_u16, IntKind.wrap_u32]
                                            rfl
                                          refine pure_ (i := 9) (N := some 75) (v := ?_) (a' := ?_) #[true, true, true, true, false, false, false, true, true, true, false, false, false, false, false, false, false] rfl rfl (any_of HT_.out (by kernel_rfl)) (fun _ _ _ h => h) (Or.inl ⟨by rfl, ?_⟩) ?_ ?_
                                          rotate_left
                                          · intro w'
                                            go_simp
                                            with_reducible rfl
                                          rotate_left
                                          · simp only [Act.put, List.setIfInBounds_toArray, List.set_cons_zero, List.set_cons_succ, i64_w, i32_w, IntKind.wrap_u8, IntKind.wrap_u16, IntKind.wrap_u32]
                                            rfl
                                          refine take_ (i := 4) (N := some 70) (v := ?_) (a' := ?_) #[true, true, true, true, true, false, false, true, true, true, false, false, false, false, false, false, false] rfl rfl (take_ofW HT_.out HW_.out (by kernel_rfl)) (fun _ _ _ h => h) (Or.inl ⟨by rfl, ?_⟩) hHeld ?_ ?_
                                          rotate_left
                                          · intro w' _
                                            go_simp
                                            with_reducible rfl
                                          rotate_left
                                          · simp only [Act.put, List.setIfInBounds_toArray, List.set_cons_zero, List.set_cons_succ, i64_w, i32_w, IntKind.wrap_u8, IntKind.wrap_u16, IntKind.wrap_u32]
                                            rfl
                                          refine take_ (i := 10) (N := some 76) (v := ?_) (a' := ?_) #[true, true, true, true, true, false, false, true, true, true, true, false, false, false, false, false, false] rfl rfl (take_ofW HT_.out HW_.out (by kernel_rfl)) (fun _ _ _ h => h) (Or.inl ⟨by rfl, ?_⟩) hHeld ?_ ?_
                                          rotate_left
                                          · intro w' _
                                            go_simp
                                            with_reducible rfl
                                          rotate_left
                                          · simp only [Act.put, List.setIfInBounds_toArray, List.set_cons_zero, List.set_cons_succ, i64_w, i32_w, IntKind.wrap_u8, IntKind.wrap_u16, IntKind.wrap_u32]
                                            rfl
                                          refine one_ (i := 5) (N := some 71) #[true, true, true, true, true, true, false, true, true, true, true, false, false, false, false, false, false] rfl rfl (one_of HT_.out (by kernel_rfl)) (by decide) (fun K hK => ?_)
                                          refine goes_ Tryd.func63 (by kernel_rfl) rfl #[.int .u8 (bt a0 (ji27))] (by rfl) rfl rfl (by (try simp only [List.map_toArray, List.map_cons, List.map_nil]); first | done | (simp only [hji27]; rfl) | rfl | (simp only [List.length_drop, List.length_take]; rfl)) ?_
                                          with_reducible refine (refrainref1_nibble.calls kj22 (bt a0 (ji27)) t302 _ A31.out).mono ?_
                                          rintro e w' ⟨rfl, ⟨nd, rfl⟩⟩
                                          refine ⟨_, rfl, ?_⟩
                                          refine hK.out _ _ trivial (fun hHeld => ?_)
                                          clear hK K
                                          refine norm_ (a' := ?_) ?_ ?_
                                          rotate_left
                                          · show Act.put _ (some 71) _ = _
                                            simp only [Act.put, List.setIfInBounds_toArray, List.set_cons_zero, List.set_cons_succ, i64_w, i32_w, IntKind.wrap_u8, IntKind.wrap_u16, IntKind.wrap_u32]
                                            rfl
                                          refine pure_ (i := 6) (N := some 72) (v := ?_) (a' := ?_) #[true, true, true, true, true, true, true, true, true, true, true, false, false, false, false, false, false] rfl rfl (any_of HT_.out (by kernel_rfl)) (fun _ _ _ h => h) (Or.inl ⟨by rfl, ?_⟩) ?_ ?_
                                          rotate_left
                                          · intro w'
                                            go_simp
                                            with_reducible rfl
                                          rotate_left
                                          · simp only [Act.put, List.setIfInBounds_toArray, List.set_cons_zero, List.set_cons_succ, i64_w, i32_w, IntKind.wrap_u8, IntKind.wrap_u16, IntKind.wrap_u32]
                                            rfl
                                          refine one_ (i := 11) (N := some 77) #[true, true, true, true, true, true, true, true, true, true, true, true, false, false, false, false, false] rfl rfl (one_of HT_.out (by kernel_rfl)) (by decide) (fun K hK => ?_)
                                          refine goes_ Tryd.func63 (by kernel_rfl) rfl #[.int .u8 (bt a0 (ji32))] (by rfl) rfl rfl (by (try simp only [List.map_toArray, List.map_cons, List.map_nil]); first | done | (simp only [hji32]; rfl) | rfl | (simp only [List.length_drop, List.length_take]; rfl)) ?_
                                          with_reducible refine (refrainref1_nibble.calls kj22 (bt a0 (ji32)) t303 _ A36.out).mono ?_
                                          rintro e w' ⟨rfl, ⟨nd, rfl⟩⟩
                                          refine ⟨_, rfl, ?_⟩
                                          refine hK.out _ _ trivial (fun hHeld => ?_)
                                          clear hK K
                                          refine norm_ (a' := ?_) ?_ ?_
                                          rotate_left
                                          · show Act.put _ (some 77) _ = _
                                            simp only [Act.put, List.setIfInBounds_toArray, List.set_cons_zero, List.set_cons_succ, i64_w, i32_w, IntKind.wrap_u8, IntKind.wrap_u16, IntKind.wrap_u32]
                                            rfl
                                          refine pure_ (i := 12) (N := some 78) (v := ?_) (a' := ?_) #[true, true, true, true, true, true, true, true, true, true, true, true, true, false, false, false, false] rfl rfl (any_of HT_.out (by kernel_rfl)) (fun _ _ _ h => h) (Or.inl ⟨by rfl, ?_⟩) ?_ ?_
                                          rotate_left
                                          · intro w'
                                            go_simp
                                            with_reducible rfl
                                          rotate_left
                                          · simp only [Act.put, List.setIfInBounds_toArray, List.set_cons_zero, List.set_cons_succ, i64_w, i32_w, IntKind.wrap_u8, IntKind.wrap_u16, IntKind.wrap_u32]
                                            rfl
                                          refine pure_ (i := 13) (N := some 79) (v := ?_) (a' := ?_) #[true, true, true, true, true, true, true, true, true, true, true, true, true, true, false, false, false] rfl rfl (any_of HT_.out (by kernel_rfl)) (fun _ _ _ h => h) (Or.inl ⟨by rfl, ?_⟩) ?_ ?_
                                          rotate_left
                                          · intro w'
                                            go_simp
                                            with_reducible rfl
                                          rotate_left
                                          · simp only [Act.put, List.setIfInBounds_toArray, List.set_cons_zero, List.set_cons_succ, i64_w, i32_w, IntKind.wrap_u8, IntKind.wrap_u16, IntKind.wrap_u32]
                                            rfl
                                          refine one_ (i := 14) (N := some 80) #[true, true, true, true, true, true, true, true, true, true, true, true, true, true, true, false, false] rfl rfl (one_of HT_.out (by kernel_rfl)) (by decide) (fun K hK => ?_)
                                          refine value_ (w1 := ?_) (v := ?_) (by rfl) rfl ?_ ?_
                                          rotate_left 2
                                          · go_simp
                                            constructor
                                            · rfl
                                            · rfl
                                          refine hK.out _ _ trivial (fun hHeld => ?_)
                                          clear hK K
                                          refine norm_ (a' := ?_) ?_ ?_
                                          rotate_left
                                          · show Act.put _ (some 80) _ = _
                                            simp only [Act.put, List.setIfInBounds_toArray, List.set_cons_zero, List.set_cons_succ, i64_w, i32_w, IntKind.wrap_u8, IntKind.wrap_u16, IntKind.wrap_u32]
                                            rfl
                                          refine one_ (i := 15) (N := some 81) #[true, true, true, true, true, true, true, true, true, true, true, true, true, true, true, true, false] rfl rfl (one_of HT_.out (by kernel_rfl)) (by decide) (fun K hK => ?_)
                                          refine Kd.R_append_step (Kd.int .u8) (w0 := w) w.heap.size (by rfl) (.tmp 66) (.tmp 80) 70 5 (.int .u8 0) 1 rfl Tryd.underlying70 info5 rfl (by decide) (by omega) u3 x3_1 ((wrap64 ((wrap64 (t302 * 16)) + t303)) % 256) [.int .u8 ((wrap64 ((wrap64 (t302 * 16)) + t303)) % 256)] (fun _ => True) (fun _ => False) rfl rfl ?aP (fun _ hk => hk.elim) ?aF ?aO ?aB ?aS ?aL ?_
                                          (case aP => exact rfl)
                                          (case aB => exact (by repeat (first | (with_reducible first | exact HB.out | apply below_alloc | apply pw_below_drewN | apply below_drew1 | refine below_set ?_ GE292.out) | exact HB.out)))
                                          (case aF => exact (fun _ _ => trivial))
                                          (case aO => exact (by (with_reducible repeat (first | apply Kd.R_alloc | apply Kd.R_drewN | apply Kd.R_drew)); exact HO_3.out))
                                          (case aS => exact (below_size (by repeat (first | (with_reducible first | exact HB.out | apply below_alloc | apply pw_below_drewN | apply below_drew1 | refine below_set ?_ GE292.out) | exact HB.out))))
                                          (case aL => have := LMc37.out; omega)
                                          intro v305 w39 ho hb hg hat
                                          rw [← Ny304.out] at ho
                                          have n0_ := Aside0.mk (blk_grown (g := gb292) (o := .cells #[.int .i64 0, .int .i64 0, .string (⟨#[]⟩ : ByteArray), .bool false] 26 (0, 0)) (by (with_reducible repeat (first | refine blk_drewN ?_ _ | refine blk_drew ?_ | refine blk_alloc ?_ _)); exact BK292.out) hg (Kd.R_ne HO_3.out BK292.out (by decide)))
                                          have n1_ := Aside0.mk (hb)
                                          have n2_ := Aside0.mk (ho)
                                          clear BK292
                                          clear HB
                                          clear HO_3
                                          have BK292 := n0_
                                          have HB := n1_
                                          have HO306 := n2_
                                          clear n0_ n1_ n2_
                                          clear ho hb hg hat
                                          refine hK.out _ _ trivial (fun hHeld => ?_)
                                          clear hK K
                                          refine norm_ (a' := ?_) ?_ ?_
                                          rotate_left
                                          · show Act.put _ (some 81) _ = _
                                            simp only [Act.put, List.setIfInBounds_toArray, List.set_cons_zero, List.set_cons_succ, i64_w, i32_w, IntKind.wrap_u8, IntKind.wrap_u16, IntKind.wrap_u32]
                                            rfl
                                          refine pure_ (i := 16) (N := some 3) (v := ?_) (a' := ?_) #[true, true, true, true, true, true, true, true, true, true, true, true, true, true, true, true, true] rfl rfl (any_of HT_.out (by kernel_rfl)) (fun _ _ _ h => h) (Or.inl ⟨by rfl, ?_⟩) ?_ ?_
                                          rotate_left
                                          · intro w'
                                            go_simp
                                            with_reducible rfl
                                          rotate_left
                                          · simp only [Act.put, List.setIfInBounds_toArray, List.set_cons_zero, List.set_cons_succ, i64_w, i32_w, IntKind.wrap_u8, IntKind.wrap_u16, IntKind.wrap_u32]
                                            rfl
                                          refine done_ (done_of HT_.out (by kernel_rfl)) ?_
                                          try go_wp2
                                          go_roundg kj22
                                          case measure => have := HK1.out; have := HJ6.out; have := HJ22.out; omega
                                          case rel => exact ⟨(y304), (wrap64 ((ji32) + 1)), (by first | rfl | (simp; done) | (simp only [← hji32] <;> (first | rfl | simp)) | (simp [*]; done)), H', ⟨by have := HK1.out; have := HJ6.out; have := HJ22.out; omega⟩, ⟨by (with_reducible repeat (first | apply Kd.R_alloc | apply Kd.R_drewN | apply Kd.R_drew)); exact HO306.out⟩, ⟨by (with_reducible repeat (first | refine blk_drewN ?_ _ | refine blk_drew ?_ | refine blk_alloc ?_ _)); exact BK292.out⟩, ⟨by repeat (first | (with_reducible first | exact HB.out | apply below_alloc | apply pw_below_drewN | apply below_drew1 | refine below_set ?_ GE292.out) | exact HB.out)⟩⟩
                                        · rw [if_neg c37] at H
                                          exact absurd H (by simp)
                                      · rw [if_neg c34] at H
                                        exact absurd H (by simp)
                                    · rw [if_neg c33] at H
                                      exact absurd H (by simp)
                                  · rw [if_neg c29] at H
                                    exact absurd H (by simp)
                                · rw [if_neg c28] at H
                                  exact absurd H (by simp)
                              · replace c26 := Bool.eq_false_iff.mpr c26
                                subst c26
                                have H1 : (if 0 ≤ ji12 then (if ji12 < (a0.size : Int) then (if x3_1.length < 140737488355328 then (refrainref1_unquoted.l0 kj22 a0 (x3_1 ++ [bt a0 ji12]) (wrap64 (ji12 + 1))) else (none)) else (none)) else (none)) = some (r1, r2, r3, r4) := by rw [if_neg (show ¬ (false = true) by decide)] at H; exact H
                                clear H
                                have H := H1
                                clear H1
                                by_cases c40 : 0 ≤ ji12
                                · rw [if_pos c40] at H
                                  have c40b0 : decide (0 ≤ ji12) = true := decide_eq_true c40
                                  clear c40
                                  by_cases c41 : ji12 < (a0.size : Int)
                                  · rw [if_pos c41] at H
                                    have c41b0 : decide (ji12 < (a0.size : Int)) = true := decide_eq_true c41
                                    clear c41
                                    by_cases c43 : x3_1.length < 140737488355328
                                    · rw [if_pos c43] at H
                                      have LMc43 := Aside0.mk c43
                                      clear c43
                                      obtain ⟨y307, hy307⟩ : ∃ y_ : List Int, y_ = (x3_1 ++ [bt a0 ji12]) := ⟨_, rfl⟩
                                      replace H : (refrainref1_unquoted.l0 kj22 a0 y307 (wrap64 (ji12 + 1))) = some (r1, r2, r3, r4) := by first | (rw [hy307]; with_reducible exact H) | (have H2_ := (Option.bind_some _ _).symm.trans H; rw [hy307]; with_reducible exact H2_) | (have H2_ := (Option.bind_some _ _).symm.trans H; with_reducible exact H2_) | with_reducible exact H | (rw [hy307]; exact H) | exact H
                                      have Ny307 := Aside0.mk hy307
                                      clear hy307
                                      have H' := Aside0.mk H
                                      clear H
                                      have p42 : 0 ≤ (ji12 : Int) := of_decide_eq_true (by first | (with_reducible assumption) | assumption)
                                      have q42 : ji12 < (a0.size : Int) := of_decide_eq_true (by first | (with_reducible assumption) | assumption)
                                      have hx42 := bt_at a0 ji12
                                      replace p42 := eq_true p42
                                      replace q42 := eq_true q42
                                      go_wp2_with (first | ((with_reducible refine gate_builtin (b := .append) (xs := #[.tmp 32, .tmp 36]) rfl ?_); (try (refine gate_guard (by rfl) ?_; dsimp only)); at_builtin; refine Kd.R_append (Kd.int .u8) (w0 := w) w.heap.size rfl (.tmp 32) (.tmp 36) 70 5 (.int .u8 0) 1 rfl Tryd.underlying70 info5 rfl (by decide) (by omega) u3 x3_1 (bt a0 ji12) [.int .u8 (bt a0 ji12)] (fun _ => True) (fun _ => False) rfl rfl ?aP (fun _ hk => hk.elim) ?aF ?aO ?aB ?aS ?aL ?_; (case aP => exact rfl); (case aB => exact (by repeat (first | (with_reducible first | exact HB.out | apply below_alloc | apply pw_below_drewN | apply below_drew1 | refine below_set ?_ GE292.out) | exact HB.out))); (case aF => exact (fun _ _ => trivial)); (case aO => exact (by (with_reducible repeat (first | apply Kd.R_alloc | apply Kd.R_drewN | apply Kd.R_drew)); exact HO_3.out)); (case aS => exact (below_size (by repeat (first | (with_reducible first | exact HB.out | apply below_alloc | apply pw_below_drewN | apply below_drew1 | refine below_set ?_ GE292.out) | exact HB.out)))); (case aL => have := LMc43.out; omega); intro v308 w44 ho hb hg hat; rw [← Ny307.out] at ho; have n0_ := Aside0.mk (blk_grown (g := gb292) (o := .cells #[.int .i64 0, .int .i64 0, .string (⟨#[]⟩ : ByteArray), .bool false] 26 (0, 0)) (by (with_reducible repeat (first | refine blk_drewN ?_ _ | refine blk_drew ?_ | refine blk_alloc ?_ _)); exact BK292.out) hg (Kd.R_ne HO_3.out BK292.out (by decide))); have n1_ := Aside0.mk (hb); have n2_ := Aside0.mk (ho); clear BK292; clear HB; clear HO_3; have BK292 := n0_; have HB := n1_; have HO309 := n2_; clear n0_ n1_ n2_; clear ho hb hg hat))
                                      go_roundg kj22
                                      case measure => have := HK1.out; have := HJ6.out; have := HJ22.out; omega
                                      case rel => exact ⟨(y307), (wrap64 (ji12 + 1)), (by first | rfl | (simp; done) | (simp only [← hji12] <;> (first | rfl | simp)) | (simp [*]; done)), H', ⟨by have := HK1.out; have := HJ6.out; have := HJ22.out; omega⟩, ⟨by (with_reducible repeat (first | apply Kd.R_alloc | apply Kd.R_drewN | apply Kd.R_drew)); exact HO309.out⟩, ⟨by (with_reducible repeat (first | refine blk_drewN ?_ _ | refine blk_drew ?_ | refine blk_alloc ?_ _)); exact BK292.out⟩, ⟨by repeat (first | (with_reducible first | exact HB.out | apply below_alloc | apply pw_below_drewN | apply below_drew1 | refine below_set ?_ GE292.out) | exact HB.out)⟩⟩
                                    · rw [if_neg c43] at H
                                      exact absurd H (by simp)
                                  · rw [if_neg c41] at H
                                    exact absurd H (by simp)
                                · rw [if_neg c40] at H
                                  exact absurd H (by simp)
                    · rw [if_neg c14] at H
                      exact absurd H (by simp)
                  · rw [if_neg c13] at H
                    exact absurd H (by simp)
          · rw [if_neg c5] at H
            exact absurd H (by simp)
        · rw [if_neg c4] at H
          exact absurd H (by simp)
      · rw [if_neg c3] at H
        have c3b0 : decide (x4_1 < (wrap64 ((a0.size : Int) - 1))) = false := decide_eq_false c3
        clear c3
        simp only [Option.some.injEq, Prod.mk.injEq] at H
        obtain ⟨rfl, rfl, rfl, rfl⟩ := H
        have hcv45 := own_string (P := Tryd.prog) Tryd.underlying70 Tryd.underlying5 Tryd.underlying9 (Kd.own_of_R HO_3.out)
        have hcz46_0 : wr.cell? ⟨gb292, 0, none⟩ = some (.int .i64 0) := (blk_cell BK292.out 0).trans rfl
        have hcz46_1 : wr.cell? ⟨gb292, 1, none⟩ = some (.int .i64 0) := (blk_cell BK292.out 1).trans rfl
        have hcz46_2 : wr.cell? ⟨gb292, 2, none⟩ = some (.string (⟨#[]⟩ : ByteArray)) := (blk_cell BK292.out 2).trans rfl
        have hcz46_3 : wr.cell? ⟨gb292, 3, none⟩ = some (.bool false) := (blk_cell BK292.out 3).trans rfl
        have hfz46_0 := blk_frozen BK292.out 0
        have hfz46_1 := blk_frozen BK292.out 1
        have hfz46_2 := blk_frozen BK292.out 2
        have hfz46_3 := blk_frozen BK292.out 3
        go_wp2
        refine bodyPost_ret (results_cell_row rfl _ _ gb292 26 #[.int .i64 2, .int .i64 0, .string (strOfNums x3_1), .bool false] (0, 0) _ rfl (by (with_reducible repeat (first | refine blk_drewN ?_ _ | refine blk_drew ?_ | refine blk_alloc ?_ _)); refine blk_put (cs := #[.int .i64 2, .int .i64 0, .string (strOfNums x3_1), .bool false]) ?_ 3 _ rfl; (with_reducible repeat (first | refine blk_drewN ?_ _ | refine blk_drew ?_ | refine blk_alloc ?_ _)); refine blk_put (cs := #[.int .i64 2, .int .i64 0, .string (⟨#[]⟩ : ByteArray), .bool false]) ?_ 2 _ rfl; (with_reducible repeat (first | refine blk_drewN ?_ _ | refine blk_drew ?_ | refine blk_alloc ?_ _)); refine blk_put (cs := #[.int .i64 2, .int .i64 0, .string (⟨#[]⟩ : ByteArray), .bool false]) ?_ 1 _ rfl; (with_reducible repeat (first | refine blk_drewN ?_ _ | refine blk_drew ?_ | refine blk_alloc ?_ _)); refine blk_put (cs := #[.int .i64 0, .int .i64 0, .string (⟨#[]⟩ : ByteArray), .bool false]) ?_ 0 _ rfl; (with_reducible repeat (first | refine blk_drewN ?_ _ | refine blk_drew ?_ | refine blk_alloc ?_ _)); exact BK292.out) Tryd.underlying26 rfl (by kernel_rfl)) rfl ?_
        exact ⟨by first | rfl | (simp [errW_none, errW_some] <;> rfl) | (simp [*, errW_none, errW_some] <;> rfl), by repeat (first | (with_reducible first | exact HB.out | apply below_alloc | apply pw_below_drewN | apply below_drew1 | refine below_set ?_ GE292.out) | exact HB.out)⟩

end Go.Proofs.YthhpeeckiggpaaaDoor.Pr

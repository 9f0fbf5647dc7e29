-- printed by a patched copy of the kit's print, for this seat
import Derived.Test.YthhpeeckiggpaaaDoorPrx0
import Derived.Test.YthhpeeckiggpaaaDoorPrx8
namespace Go.Proofs.YthhpeeckiggpaaaDoor.Pr
open Go.RowKit Go.Proofs.YthhpeeckiggpaaaDoorW.PrintWords Go.Proofs.YthhpeeckiggpaaaDoorW.PrintLast Go.Proofs.YthhpeeckiggpaaaDoorW.PrintMore
attribute [local go_sem] max2_int min2_int max_two min_two max_three min_three max_four min_four   -- for this text's walks alone
attribute [local go_sem high] Go.Proofs.YthhpeeckiggpaaaDoor.isSome_setCell
set_option maxRecDepth 100000
set_option linter.unusedVariables false
set_option linter.unusedSimpArgs false

/-! ### refrainref1_quoted: function 34 -/
mutual
def refrainref1_quoted.l0 : Nat → ByteArray → List Int → Int → Option (ByteArray)
  | 0, _, _, _ => none
  | k + 1, x0, x3, x4 => if x4 < (x0.size : Int) then (if 0 ≤ x4 then (if (wrap64 (bt x0 x4)) = 34 then (refrainref1_quoted.j1 k x0 x3 x4 (wrap64 (bt x0 x4)) true) else (refrainref1_quoted.j1 k x0 x3 x4 (wrap64 (bt x0 x4)) ((wrap64 (bt x0 x4)) == 92))) else (none)) else (if x3.length < 140737488355328 then (some (strOfNums (x3 ++ [34]))) else (none))
def refrainref1_quoted.j1 : Nat → ByteArray → List Int → Int → Int → Bool → Option (ByteArray)
  | 0, _, _, _, _, _ => none
  | k + 1, x0, x3, x4, x5, x26 => if x26 = true then ((some (([92, (x5) % 256] : List Int) : List Int)).bind fun y245 => (if x3.length + y245.length < 140737488355328 then (refrainref1_quoted.l0 k x0 (x3 ++ y245) (wrap64 (x4 + 1))) else (none))) else (if x5 = 10 then ((some (([92, 110] : List Int) : List Int)).bind fun y251 => (if x3.length + y251.length < 140737488355328 then (refrainref1_quoted.l0 k x0 (x3 ++ y251) (wrap64 (x4 + 1))) else (none))) else (if x5 = 9 then ((some (([92, 116] : List Int) : List Int)).bind fun y257 => (if x3.length + y257.length < 140737488355328 then (refrainref1_quoted.l0 k x0 (x3 ++ y257) (wrap64 (x4 + 1))) else (none))) else (if x5 ≥ 32 then (refrainref1_quoted.j2 k x0 x3 x4 x5 (decide (x5 ≤ 126))) else (refrainref1_quoted.j2 k x0 x3 x4 x5 false))))
def refrainref1_quoted.j2 : Nat → ByteArray → List Int → Int → Int → Bool → Option (ByteArray)
  | 0, _, _, _, _, _ => none
  | k + 1, x0, x3, x4, x5, x50 => if x50 = true then (if x3.length < 140737488355328 then (refrainref1_quoted.l0 k x0 (x3 ++ [(x5) % 256]) (wrap64 (x4 + 1))) else (none)) else ((refrainref1_Hex.f (wrap64 (Int.tdiv x5 16))).bind fun t266 => ((refrainref1_Hex.f (Int.tmod x5 16)).bind fun t267 => ((some (([92, 120, t266, t267] : List Int) : List Int)).bind fun y268 => (if x3.length + y268.length < 140737488355328 then (refrainref1_quoted.l0 k x0 (x3 ++ y268) (wrap64 (x4 + 1))) else (none)))))
end
def refrainref1_quoted.f (k : Nat) (a0 : ByteArray) : Option (ByteArray) := refrainref1_quoted.l0 k a0 (([34] : List Int)) 0
set_option maxRecDepth 100000 in
theorem refrainref1_quoted.l0_zero : ∀ y0 y1 y2, refrainref1_quoted.l0 0 y0 y1 y2 = none := fun _ _ _ => rfl
set_option maxRecDepth 100000 in
theorem refrainref1_quoted.j1_zero : ∀ y0 y1 y2 y3 y4, refrainref1_quoted.j1 0 y0 y1 y2 y3 y4 = none := fun _ _ _ _ _ => rfl
set_option maxRecDepth 100000 in
theorem refrainref1_quoted.j2_zero : ∀ y0 y1 y2 y3 y4, refrainref1_quoted.j2 0 y0 y1 y2 y3 y4 = none := fun _ _ _ _ _ => rfl
set_option maxRecDepth 100000 in
theorem refrainref1_quoted.mono_l : ∀ k, (∀ y0 y1 y2, LeO (refrainref1_quoted.l0 k y0 y1 y2) (refrainref1_quoted.l0 (k + 1) y0 y1 y2)) ∧ (∀ y0 y1 y2 y3 y4, LeO (refrainref1_quoted.j1 k y0 y1 y2 y3 y4) (refrainref1_quoted.j1 (k + 1) y0 y1 y2 y3 y4)) ∧ (∀ y0 y1 y2 y3 y4, LeO (refrainref1_quoted.j2 k y0 y1 y2 y3 y4) (refrainref1_quoted.j2 (k + 1) y0 y1 y2 y3 y4))
  | 0 => ⟨fun _ _ _ r h => by (unfold refrainref1_quoted.l0 at h; cases h), fun _ _ _ _ _ r h => by (unfold refrainref1_quoted.j1 at h; cases h), fun _ _ _ _ _ r h => by (unfold refrainref1_quoted.j2 at h; cases h)⟩
  | k + 1 => by
    obtain ⟨ih0, ih1, ih2⟩ := refrainref1_quoted.mono_l k
    refine ⟨?_, ?_, ?_⟩
    · intro y0 y1 y2
      unfold refrainref1_quoted.l0
      repeat' first
      | (with_reducible exact ih0 _ _ _)
      | (with_reducible exact ih1 _ _ _ _ _)
      | (with_reducible exact ih2 _ _ _ _ _)
      | (with_reducible exact LeO.refl _)
      | (with_reducible exact LeO.none _)
      | (with_reducible refine LeO.ite ?_ ?_)
      | (with_reducible refine LeO.bind ?_ (fun _ => ?_))
      | exact ih0 _ _ _
      | exact ih1 _ _ _ _ _
      | exact ih2 _ _ _ _ _
      | exact LeO.none _
      | refine LeO.ite ?_ ?_
      | refine LeO.bind ?_ (fun _ => ?_)
    · intro y0 y1 y2 y3 y4
      unfold refrainref1_quoted.j1
      repeat' first
      | (with_reducible exact ih0 _ _ _)
      | (with_reducible exact ih1 _ _ _ _ _)
      | (with_reducible exact ih2 _ _ _ _ _)
      | (with_reducible exact LeO.refl _)
      | (with_reducible exact LeO.none _)
      | (with_reducible refine LeO.ite ?_ ?_)
      | (with_reducible refine LeO.bind ?_ (fun _ => ?_))
      | exact ih0 _ _ _
      | exact ih1 _ _ _ _ _
      | exact ih2 _ _ _ _ _
      | exact LeO.none _
      | refine LeO.ite ?_ ?_
      | refine LeO.bind ?_ (fun _ => ?_)
    · intro y0 y1 y2 y3 y4
      unfold refrainref1_quoted.j2
      repeat' first
      | (with_reducible exact ih0 _ _ _)
      | (with_reducible exact ih1 _ _ _ _ _)
      | (with_reducible exact ih2 _ _ _ _ _)
      | (with_reducible exact LeO.refl _)
      | (with_reducible exact LeO.none _)
      | (with_reducible refine LeO.ite ?_ ?_)
      | (with_reducible refine LeO.bind ?_ (fun _ => ?_))
      | exact ih0 _ _ _
      | exact ih1 _ _ _ _ _
      | exact ih2 _ _ _ _ _
      | exact LeO.none _
      | refine LeO.ite ?_ ?_
      | refine LeO.bind ?_ (fun _ => ?_)
set_option maxRecDepth 100000 in
theorem refrainref1_quoted.mono : ∀ a0 k, LeO (refrainref1_quoted.f k a0) (refrainref1_quoted.f (k + 1) a0) := by
  intro a0 k
  obtain ⟨ih0, ih1, ih2⟩ := refrainref1_quoted.mono_l k
  unfold refrainref1_quoted.f
  repeat' first
      | (with_reducible exact ih0 _ _ _)
      | (with_reducible exact ih1 _ _ _ _ _)
      | (with_reducible exact ih2 _ _ _ _ _)
      | (with_reducible exact LeO.refl _)
      | (with_reducible exact LeO.none _)
      | (with_reducible refine LeO.ite ?_ ?_)
      | (with_reducible refine LeO.bind ?_ (fun _ => ?_))
      | exact ih0 _ _ _
      | exact ih1 _ _ _ _ _
      | exact ih2 _ _ _ _ _
      | exact LeO.none _
      | refine LeO.ite ?_ ?_
      | refine LeO.bind ?_ (fun _ => ?_)
set_option maxHeartbeats 8000000 in
set_option maxRecDepth 100000 in
theorem refrainref1_quoted.calls (k : Nat) (a0 : ByteArray) (r : ByteArray) (w : World) (h : refrainref1_quoted.f k a0 = some r) :
    Calls Tryd.prog 34 #[.string a0] w fun e w' => e = .returned (.string r) ∧ Below w.heap.size w w' := by
  have HB := Aside0.mk (Below.refl w.heap.size w)
  have H : (refrainref1_quoted.l0 k a0 (([34] : List Int)) 0) = some r := h
  clear h
  obtain ⟨y239, hy239⟩ : ∃ y_ : List Int, y_ = (([34] : List Int)) := ⟨_, rfl⟩
  replace H : (refrainref1_quoted.l0 k a0 y239 0) = some r := by first | (rw [hy239]; with_reducible exact H) | (have H2_ := (Option.bind_some _ _).symm.trans H; rw [hy239]; with_reducible exact H2_) | (have H2_ := (Option.bind_some _ _).symm.trans H; with_reducible exact H2_) | with_reducible exact H | (rw [hy239]; exact H) | exact H
  have Ny239 := Aside0.mk hy239
  clear hy239
  have H' := Aside0.mk H
  clear H
  go_enter Tryd.func34, Tryd.ntmps34
  go_wp2_with (first | ((with_reducible refine gate_dst (N := 6) rfl ?_); refine Kd.R_lit (Kd.int .u8) _ 5 ?hg (N := 6) ?hd (xs := ([34] : List Int)) (inner := [.int .u8 34]) (ok := fun _ => True) (okp := fun _ => True) ?hr ?hp (fun _ hk => hk) trivial (Below.refl _ _) (Nat.le_refl _) (by simp) ?_; (case hd => rfl); (case hg => rfl); (case hr => first | (go_simp; done) | (go_simp; rfl)); (case hp => exact (Reps.one (show Kd.M (Kd.int .u8) _ _ _ 34 [.int .u8 34] from rfl) (Reps.none _ _))); intro v240 w2 ho3 hb hg_ hnew_; clear hg_ hnew_; (first | rw [← Ny239.out] at ho3 | (simp only [Int.reduceToNat] at ho3; rw [← Ny239.out] at ho3)); have n0_ := Aside0.mk (Kd.R_lower ho3 (below_size (by repeat (first | (with_reducible first | exact HB.out | apply below_alloc | apply pw_below_drewN | apply below_drew1) | exact HB.out)))); have n1_ := Aside0.mk (below_step (by repeat (first | (with_reducible first | exact HB.out | apply below_alloc | apply pw_below_drewN | apply below_drew1) | exact HB.out)) hb); clear HB; have HO241 := n0_; have HB := n1_; clear n0_ n1_; clear hb ho3))
  go_loopg [3, 4] k (fun kq v3 v4 w' => ∃ (x3_1 : List Int) (x4_1 : Int), v4 = .int .i64 x4_1 ∧ Aside0 (refrainref1_quoted.l0 kq a0 x3_1 x4_1 = some r) ∧ Aside0 (kq ≤ k) ∧ Aside0 (Kd.R (Kd.int .u8) 5 w' w.heap.size (fun _ => True) v3 x3_1) ∧ Aside0 (Below w.heap.size w w'))
  case atStart => exact ⟨(y239), (0), (by first | rfl | (simp; done) | (simp [*]; done) | (simp; unfold wrap64; omega)), H', ⟨Nat.le_refl _⟩, ⟨by (with_reducible repeat (first | apply Kd.R_alloc | apply Kd.R_drewN | apply Kd.R_drew)); exact HO241.out⟩, ⟨by repeat (first | (with_reducible first | exact HB.out | apply below_alloc | apply pw_below_drewN | apply below_drew1) | exact HB.out)⟩⟩
  case round =>
    clear H'
    try clear p2
    try clear c3
    obtain ⟨x3_1, x4_1, rfl, HA, HK1, HO_3, HB⟩ := hrel
    cases gk with
    | zero => (have HA2 := HA.out; clear HA; revert HA2; rw [refrainref1_quoted.l0_zero]; intro h_; cases h_)
    | succ k1 =>
      have H := HA.out
      clear HA
      simp only [refrainref1_quoted.l0] at H
      by_cases c4 : x4_1 < (a0.size : Int)
      · rw [if_pos c4] at H
        have c4b0 : decide (x4_1 < (a0.size : Int)) = true := decide_eq_true c4
        clear c4
        by_cases c5 : 0 ≤ x4_1
        · rw [if_pos c5] at H
          have c5b0 : decide (0 ≤ x4_1) = true := decide_eq_true c5
          clear c5
          have HC7 := Aside0.mk H
          clear H
          have p6 : 0 ≤ (x4_1 : Int) := of_decide_eq_true (by first | (with_reducible assumption) | assumption)
          have q6 : x4_1 < (a0.size : Int) := of_decide_eq_true (by first | (with_reducible assumption) | assumption)
          have hx6 := bt_at a0 x4_1
          replace p6 := eq_true p6
          replace q6 := eq_true q6
          go_upto_region 7 with (fail)
          go_cut [26] (fun v26 wc => ∃ (kq : Nat) (x26_6 : Bool), v26 = .bool x26_6 ∧ Aside0 (refrainref1_quoted.j1 kq a0 x3_1 x4_1 (wrap64 (bt a0 x4_1)) x26_6 = some r) ∧ Aside0 (kq ≤ k1) ∧ Aside0 (Kd.R (Kd.int .u8) 5 wc w.heap.size (fun _ => True) u3 x3_1) ∧ Aside0 (Below w.heap.size w wc))
          case first =>
            have H := HC7.out
            clear HC7
            by_cases c8 : (wrap64 (bt a0 x4_1)) = 34
            · rw [if_pos c8] at H
              have c8b0 : ((wrap64 (bt a0 x4_1)) == 34) = true := beq_iff_eq.mpr c8
              have c8b1 : ((wrap64 (bt a0 x4_1)) != 34) = false := bne_eq_false_iff_eq.mpr c8
              clear c8
              (first | rw [c8b0] | (simp only [i64_w, i32_w, IntKind.wrap_u8, IntKind.wrap_u16, IntKind.wrap_u32]; rw [c8b0]) | skip)
              have H' := Aside0.mk H
              clear H
              go_wp2
              go_meet
              case rel => exact ⟨_, (true), (by first | rfl | (simp; done) | (simp [*]; done) | (simp; unfold wrap64; omega)), H', ⟨by have := HK1.out; first | omega | exact Nat.le_refl _⟩, ⟨by (with_reducible repeat (first | apply Kd.R_alloc | apply Kd.R_drewN | apply Kd.R_drew)); exact HO_3.out⟩, ⟨by repeat (first | (with_reducible first | exact HB.out | apply below_alloc | apply pw_below_drewN | apply below_drew1) | exact HB.out)⟩⟩
            · rw [if_neg c8] at H
              have c8b0 : ((wrap64 (bt a0 x4_1)) == 34) = false := beq_eq_false_iff_ne.mpr c8
              have c8b1 : ((wrap64 (bt a0 x4_1)) != 34) = true := bne_iff_ne.mpr c8
              (first | rw [c8b0] | (simp only [i64_w, i32_w, IntKind.wrap_u8, IntKind.wrap_u16, IntKind.wrap_u32]; rw [c8b0]) | skip)
              have H' := Aside0.mk H
              clear H
              go_wp2
              go_meet
              case rel => exact ⟨_, (((wrap64 (bt a0 x4_1)) == 92)), (by first | rfl | (simp; done) | (simp [*]; done) | (simp; unfold wrap64; omega)), H', ⟨by have := HK1.out; first | omega | exact Nat.le_refl _⟩, ⟨by (with_reducible repeat (first | apply Kd.R_alloc | apply Kd.R_drewN | apply Kd.R_drew)); exact HO_3.out⟩, ⟨by repeat (first | (with_reducible first | exact HB.out | apply below_alloc | apply pw_below_drewN | apply below_drew1) | exact HB.out)⟩⟩
          case rest =>
            clear HC7
            try clear p2
            try clear c3
            try clear c4
            try clear c4b0
            try clear c5
            try clear c5b0
            try clear p6
            try clear q6
            try clear hx6
            try clear c8
            try clear c8b0
            try clear c8b1
            try clear p2
            try clear p6
            try clear q6
            obtain ⟨kq, x26_6, rfl, HA, HJ6, HO_3, HB⟩ := hcut
            cases kq with
            | zero => (have HA2 := HA.out; clear HA; revert HA2; rw [refrainref1_quoted.j1_zero]; intro h_; cases h_)
            | succ kj6 =>
              have H := HA.out
              clear HA
              simp only [refrainref1_quoted.j1] at H
              by_cases c9 : x26_6 = true
              · subst c9
                have H1 : ((some (([92, ((wrap64 (bt a0 x4_1))) % 256] : List Int) : List Int)).bind fun y245 => (if x3_1.length + y245.length < 140737488355328 then (refrainref1_quoted.l0 kj6 a0 (x3_1 ++ y245) (wrap64 (x4_1 + 1))) else (none))) = some r := by rw [if_pos rfl] at H; exact H
                clear H
                have H := H1
                clear H1
                obtain ⟨y245, hy245⟩ : ∃ y_ : List Int, y_ = (([92, ((wrap64 (bt a0 x4_1))) % 256] : List Int)) := ⟨_, rfl⟩
                replace H : (if x3_1.length + y245.length < 140737488355328 then (refrainref1_quoted.l0 kj6 a0 (x3_1 ++ y245) (wrap64 (x4_1 + 1))) else (none)) = some r := by first | (rw [hy245]; with_reducible exact H) | (have H2_ := (Option.bind_some _ _).symm.trans H; rw [hy245]; with_reducible exact H2_) | (have H2_ := (Option.bind_some _ _).symm.trans H; with_reducible exact H2_) | with_reducible exact H | (rw [hy245]; exact H) | exact H
                have Ny245 := Aside0.mk hy245
                clear hy245
                by_cases c10 : x3_1.length + y245.length < 140737488355328
                · rw [if_pos c10] at H
                  have LMc10 := Aside0.mk c10
                  clear c10
                  obtain ⟨y248, hy248⟩ : ∃ y_ : List Int, y_ = (x3_1 ++ y245) := ⟨_, rfl⟩
                  replace H : (refrainref1_quoted.l0 kj6 a0 y248 (wrap64 (x4_1 + 1))) = some r := by first | (rw [hy248]; with_reducible exact H) | (have H2_ := (Option.bind_some _ _).symm.trans H; rw [hy248]; with_reducible exact H2_) | (have H2_ := (Option.bind_some _ _).symm.trans H; with_reducible exact H2_) | with_reducible exact H | (rw [hy248]; exact H) | exact H
                  have Ny248 := Aside0.mk hy248
                  clear hy248
                  have H' := Aside0.mk H
                  clear H
                  go_wp2_with (first | ((with_reducible refine gate_dst (N := 36) rfl ?_); refine Kd.R_lit (Kd.int .u8) _ 5 ?hg (N := 36) ?hd (xs := ([92, ((wrap64 (bt a0 x4_1))) % 256] : List Int)) (inner := [.int .u8 92, .int .u8 (((wrap64 (bt a0 x4_1))) % 256)]) (ok := fun _ => True) (okp := fun _ => True) ?hr ?hp (fun _ hk => hk) trivial (Below.refl _ _) (Nat.le_refl _) (by simp) ?_; (case hd => rfl); (case hg => rfl); (case hr => first | (go_simp; done) | (go_simp; rfl)); (case hp => exact (Reps.one (show Kd.M (Kd.int .u8) _ _ _ 92 [.int .u8 92] from rfl) (Reps.one (show Kd.M (Kd.int .u8) _ _ _ (((wrap64 (bt a0 x4_1))) % 256) [.int .u8 (((wrap64 (bt a0 x4_1))) % 256)] from rfl) (Reps.none _ _)))); intro v246 w11 ho12 hb hg_ hnew_; clear hg_ hnew_; (first | rw [← Ny245.out] at ho12 | (simp only [Int.reduceToNat] at ho12; rw [← Ny245.out] at ho12)); have n0_ := Aside0.mk (Kd.R_elder' (by (with_reducible repeat (first | apply Kd.R_alloc | apply Kd.R_drewN | apply Kd.R_drew)); exact HO_3.out) (Kd.R_base ho12) hb); have n1_ := Aside0.mk (Kd.R_lower (Kd.R_new' ho12 (Kd.R_lt (by (with_reducible repeat (first | apply Kd.R_alloc | apply Kd.R_drewN | apply Kd.R_drew)); exact HO_3.out))) (below_size (by repeat (first | (with_reducible first | exact HB.out | apply below_alloc | apply pw_below_drewN | apply below_drew1) | exact HB.out)))); have n2_ := Aside0.mk (below_step (by repeat (first | (with_reducible first | exact HB.out | apply below_alloc | apply pw_below_drewN | apply below_drew1) | exact HB.out)) hb); clear HO_3; clear HB; have HO_3 := n0_; have HO247 := n1_; have HB := n2_; clear n0_ n1_ n2_; clear hb ho12; obtain ⟨Ao14, co14, eo14⟩ := Kd.R_slice HO247.out; subst eo14) | ((with_reducible refine gate_builtin (b := .append) (xs := #[.tmp 33, .tmp 36]) rfl ?_); at_builtin; refine Kd.R_append_rows (Kd.int .u8) (w0 := w) w.heap.size rfl (.tmp 33) (.tmp 36) 70 5 (.int .u8 0) 1 rfl Tryd.underlying70 info5 rfl (by decide) (by omega) u3 x3_1 y245 _ _ _ (fun k_ => some k_ ≠ (.slice Ao14 y245.length co14 : Value).ownBlock) (fun _ => False) rfl rfl ?aO ?aR (fun _ _ h => h) (fun _ h => h.elim) ?aF ?aB ?aS ?aL ?_; (case aR => repeat (first | exact (Kd.R_reads' HO247.out).2.2 | (with_reducible refine Kd.C_alloc ?_ _) | (with_reducible refine Kd.C_drewN ?_ _) | (with_reducible refine Kd.C_drew ?_))); (case aB => exact (by repeat (first | (with_reducible first | exact HB.out | apply below_alloc | apply pw_below_drewN | apply below_drew1) | exact HB.out))); (case aF => exact (fun k_ hk => Kd.fresh' (Kd.R_lt (by (with_reducible repeat (first | apply Kd.R_alloc | apply Kd.R_drewN | apply Kd.R_drew)); exact HO247.out)) k_ hk)); (case aO => exact (by (with_reducible repeat (first | apply Kd.R_alloc | apply Kd.R_drewN | apply Kd.R_drew)); exact Kd.R_mono HO_3.out (fun _ hk => hk.2))); (case aS => exact (below_size (by repeat (first | (with_reducible first | exact HB.out | apply below_alloc | apply pw_below_drewN | apply below_drew1) | exact HB.out)))); (case aL => have := LMc10.out; omega); intro v249 w13 ho hb hg hat; rw [← Ny248.out] at ho; have n0_ := Aside0.mk (Kd.R_after (ok := (fun _ => True)) (by (with_reducible repeat (first | apply Kd.R_alloc | apply Kd.R_drewN | apply Kd.R_drew)); exact HO247.out) hg hat); have n1_ := Aside0.mk (hb); have n2_ := Aside0.mk (ho); clear HO247; clear HB; clear HO_3; have HO247 := n0_; have HB := n1_; have HO250 := n2_; clear n0_ n1_ n2_; clear ho hb hg hat))
                  go_roundg kj6
                  case measure => have := HK1.out; have := HJ6.out; omega
                  case rel => exact ⟨(y248), (wrap64 (x4_1 + 1)), (by first | rfl | (simp; done) | (simp [*]; done) | (simp; unfold wrap64; omega)), H', ⟨by have := HK1.out; have := HJ6.out; omega⟩, ⟨by (with_reducible repeat (first | apply Kd.R_alloc | apply Kd.R_drewN | apply Kd.R_drew)); exact Kd.R_mono HO250.out (fun _ hk => trivial)⟩, ⟨by repeat (first | (with_reducible first | exact HB.out | apply below_alloc | apply pw_below_drewN | apply below_drew1) | exact HB.out)⟩⟩
                · rw [if_neg c10] at H
                  exact absurd H (by simp)
              · replace c9 := Bool.eq_false_iff.mpr c9
                subst c9
                have H1 : (if (wrap64 (bt a0 x4_1)) = 10 then ((some (([92, 110] : List Int) : List Int)).bind fun y251 => (if x3_1.length + y251.length < 140737488355328 then (refrainref1_quoted.l0 kj6 a0 (x3_1 ++ y251) (wrap64 (x4_1 + 1))) else (none))) else (if (wrap64 (bt a0 x4_1)) = 9 then ((some (([92, 116] : List Int) : List Int)).bind fun y257 => (if x3_1.length + y257.length < 140737488355328 then (refrainref1_quoted.l0 kj6 a0 (x3_1 ++ y257) (wrap64 (x4_1 + 1))) else (none))) else (if (wrap64 (bt a0 x4_1)) ≥ 32 then (refrainref1_quoted.j2 kj6 a0 x3_1 x4_1 (wrap64 (bt a0 x4_1)) (decide ((wrap64 (bt a0 x4_1)) ≤ 126))) else (refrainref1_quoted.j2 kj6 a0 x3_1 x4_1 (wrap64 (bt a0 x4_1)) false)))) = some r := by rw [if_neg (show ¬ (false = true) by decide)] at H; exact H
                clear H
                have H := H1
                clear H1
                by_cases c15 : (wrap64 (bt a0 x4_1)) = 10
                · rw [if_pos c15] at H
                  have c15b0 : ((wrap64 (bt a0 x4_1)) == 10) = true := beq_iff_eq.mpr c15
                  have c15b1 : ((wrap64 (bt a0 x4_1)) != 10) = false := bne_eq_false_iff_eq.mpr c15
                  clear c15
                  obtain ⟨y251, hy251⟩ : ∃ y_ : List Int, y_ = (([92, 110] : List Int)) := ⟨_, rfl⟩
                  replace H : (if x3_1.length + y251.length < 140737488355328 then (refrainref1_quoted.l0 kj6 a0 (x3_1 ++ y251) (wrap64 (x4_1 + 1))) else (none)) = some r := by first | (rw [hy251]; with_reducible exact H) | (have H2_ := (Option.bind_some _ _).symm.trans H; rw [hy251]; with_reducible exact H2_) | (have H2_ := (Option.bind_some _ _).symm.trans H; with_reducible exact H2_) | with_reducible exact H | (rw [hy251]; exact H) | exact H
                  have Ny251 := Aside0.mk hy251
                  clear hy251
                  by_cases c16 : x3_1.length + y251.length < 140737488355328
                  · rw [if_pos c16] at H
                    have LMc16 := Aside0.mk c16
                    clear c16
                    obtain ⟨y254, hy254⟩ : ∃ y_ : List Int, y_ = (x3_1 ++ y251) := ⟨_, rfl⟩
                    replace H : (refrainref1_quoted.l0 kj6 a0 y254 (wrap64 (x4_1 + 1))) = some r := by first | (rw [hy254]; with_reducible exact H) | (have H2_ := (Option.bind_some _ _).symm.trans H; rw [hy254]; with_reducible exact H2_) | (have H2_ := (Option.bind_some _ _).symm.trans H; with_reducible exact H2_) | with_reducible exact H | (rw [hy254]; exact H) | exact H
                    have Ny254 := Aside0.mk hy254
                    clear hy254
                    have H' := Aside0.mk H
                    clear H
                    go_wp2_with (first | ((with_reducible refine gate_dst (N := 42) rfl ?_); refine Kd.R_lit (Kd.int .u8) _ 5 ?hg (N := 42) ?hd (xs := ([92, 110] : List Int)) (inner := [.int .u8 92, .int .u8 110]) (ok := fun _ => True) (okp := fun _ => True) ?hr ?hp (fun _ hk => hk) trivial (Below.refl _ _) (Nat.le_refl _) (by simp) ?_; (case hd => rfl); (case hg => rfl); (case hr => first | (go_simp; done) | (go_simp; rfl)); (case hp => exact (Reps.one (show Kd.M (Kd.int .u8) _ _ _ 92 [.int .u8 92] from rfl) (Reps.one (show Kd.M (Kd.int .u8) _ _ _ 110 [.int .u8 110] from rfl) (Reps.none _ _)))); intro v252 w17 ho18 hb hg_ hnew_; clear hg_ hnew_; (first | rw [← Ny251.out] at ho18 | (simp only [Int.reduceToNat] at ho18; rw [← Ny251.out] at ho18)); have n0_ := Aside0.mk (Kd.R_elder' (by (with_reducible repeat (first | apply Kd.R_alloc | apply Kd.R_drewN | apply Kd.R_drew)); exact HO_3.out) (Kd.R_base ho18) hb); have n1_ := Aside0.mk (Kd.R_lower (Kd.R_new' ho18 (Kd.R_lt (by (with_reducible repeat (first | apply Kd.R_alloc | apply Kd.R_drewN | apply Kd.R_drew)); exact HO_3.out))) (below_size (by repeat (first | (with_reducible first | exact HB.out | apply below_alloc | apply pw_below_drewN | apply below_drew1) | exact HB.out)))); have n2_ := Aside0.mk (below_step (by repeat (first | (with_reducible first | exact HB.out | apply below_alloc | apply pw_below_drewN | apply below_drew1) | exact HB.out)) hb); clear HO_3; clear HB; have HO_3 := n0_; have HO253 := n1_; have HB := n2_; clear n0_ n1_ n2_; clear hb ho18; obtain ⟨Ao20, co20, eo20⟩ := Kd.R_slice HO253.out; subst eo20) | ((with_reducible refine gate_builtin (b := .append) (xs := #[.tmp 41, .tmp 42]) rfl ?_); at_builtin; refine Kd.R_append_rows (Kd.int .u8) (w0 := w) w.heap.size rfl (.tmp 41) (.tmp 42) 70 5 (.int .u8 0) 1 rfl Tryd.underlying70 info5 rfl (by decide) (by omega) u3 x3_1 y251 _ _ _ (fun k_ => some k_ ≠ (.slice Ao20 y251.length co20 : Value).ownBlock) (fun _ => False) rfl rfl ?aO ?aR (fun _ _ h => h) (fun _ h => h.elim) ?aF ?aB ?aS ?aL ?_; (case aR => repeat (first | exact (Kd.R_reads' HO253.out).2.2 | (with_reducible refine Kd.C_alloc ?_ _) | (with_reducible refine Kd.C_drewN ?_ _) | (with_reducible refine Kd.C_drew ?_))); (case aB => exact (by repeat (first | (with_reducible first | exact HB.out | apply below_alloc | apply pw_below_drewN | apply below_drew1) | exact HB.out))); (case aF => exact (fun k_ hk => Kd.fresh' (Kd.R_lt (by (with_reducible repeat (first | apply Kd.R_alloc | apply Kd.R_drewN | apply Kd.R_drew)); exact HO253.out)) k_ hk)); (case aO => exact (by (with_reducible repeat (first | apply Kd.R_alloc | apply Kd.R_drewN | apply Kd.R_drew)); exact Kd.R_mono HO_3.out (fun _ hk => hk.2))); (case aS => exact (below_size (by repeat (first | (with_reducible first | exact HB.out | apply below_alloc | apply pw_below_drewN | apply below_drew1) | exact HB.out)))); (case aL => have := LMc16.out; omega); intro v255 w19 ho hb hg hat; rw [← Ny254.out] at ho; have n0_ := Aside0.mk (Kd.R_after (ok := (fun _ => True)) (by (with_reducible repeat (first | apply Kd.R_alloc | apply Kd.R_drewN | apply Kd.R_drew)); exact HO253.out) hg hat); have n1_ := Aside0.mk (hb); have n2_ := Aside0.mk (ho); clear HO253; clear HB; clear HO_3; have HO253 := n0_; have HB := n1_; have HO256 := n2_; clear n0_ n1_ n2_; clear ho hb hg hat))
                    go_roundg kj6
                    case measure => have := HK1.out; have := HJ6.out; omega
                    case rel => exact ⟨(y254), (wrap64 (x4_1 + 1)), (by first | rfl | (simp; done) | (simp [*]; done) | (simp; unfold wrap64; omega)), H', ⟨by have := HK1.out; have := HJ6.out; omega⟩, ⟨by (with_reducible repeat (first | apply Kd.R_alloc | apply Kd.R_drewN | apply Kd.R_drew)); exact Kd.R_mono HO256.out (fun _ hk => trivial)⟩, ⟨by repeat (first | (with_reducible first | exact HB.out | apply below_alloc | apply pw_below_drewN | apply below_drew1) | exact HB.out)⟩⟩
                  · rw [if_neg c16] at H
                    exact absurd H (by simp)
                · rw [if_neg c15] at H
                  have c15b0 : ((wrap64 (bt a0 x4_1)) == 10) = false := beq_eq_false_iff_ne.mpr c15
                  have c15b1 : ((wrap64 (bt a0 x4_1)) != 10) = true := bne_iff_ne.mpr c15
                  by_cases c21 : (wrap64 (bt a0 x4_1)) = 9
                  · rw [if_pos c21] at H
                    have c21b0 : ((wrap64 (bt a0 x4_1)) == 9) = true := beq_iff_eq.mpr c21
                    have c21b1 : ((wrap64 (bt a0 x4_1)) != 9) = false := bne_eq_false_iff_eq.mpr c21
                    clear c21
                    obtain ⟨y257, hy257⟩ : ∃ y_ : List Int, y_ = (([92, 116] : List Int)) := ⟨_, rfl⟩
                    replace H : (if x3_1.length + y257.length < 140737488355328 then (refrainref1_quoted.l0 kj6 a0 (x3_1 ++ y257) (wrap64 (x4_1 + 1))) else (none)) = some r := by first | (rw [hy257]; with_reducible exact H) | (have H2_ := (Option.bind_some _ _).symm.trans H; rw [hy257]; with_reducible exact H2_) | (have H2_ := (Option.bind_some _ _).symm.trans H; with_reducible exact H2_) | with_reducible exact H | (rw [hy257]; exact H) | exact H
                    have Ny257 := Aside0.mk hy257
                    clear hy257
                    by_cases c22 : x3_1.length + y257.length < 140737488355328
                    · rw [if_pos c22] at H
                      have LMc22 := Aside0.mk c22
                      clear c22
                      obtain ⟨y260, hy260⟩ : ∃ y_ : List Int, y_ = (x3_1 ++ y257) := ⟨_, rfl⟩
                      replace H : (refrainref1_quoted.l0 kj6 a0 y260 (wrap64 (x4_1 + 1))) = some r := by first | (rw [hy260]; with_reducible exact H) | (have H2_ := (Option.bind_some _ _).symm.trans H; rw [hy260]; with_reducible exact H2_) | (have H2_ := (Option.bind_some _ _).symm.trans H; with_reducible exact H2_) | with_reducible exact H | (rw [hy260]; exact H) | exact H
                      have Ny260 := Aside0.mk hy260
                      clear hy260
                      have H' := Aside0.mk H
                      clear H
                      go_wp2_with (first | ((with_reducible refine gate_dst (N := 48) rfl ?_); refine Kd.R_lit (Kd.int .u8) _ 5 ?hg (N := 48) ?hd (xs := ([92, 116] : List Int)) (inner := [.int .u8 92, .int .u8 116]) (ok := fun _ => True) (okp := fun _ => True) ?hr ?hp (fun _ hk => hk) trivial (Below.refl _ _) (Nat.le_refl _) (by simp) ?_; (case hd => rfl); (case hg => rfl); (case hr => first | (go_simp; done) | (go_simp; rfl)); (case hp => exact (Reps.one (show Kd.M (Kd.int .u8) _ _ _ 92 [.int .u8 92] from rfl) (Reps.one (show Kd.M (Kd.int .u8) _ _ _ 116 [.int .u8 116] from rfl) (Reps.none _ _)))); intro v258 w23 ho24 hb hg_ hnew_; clear hg_ hnew_; (first | rw [← Ny257.out] at ho24 | (simp only [Int.reduceToNat] at ho24; rw [← Ny257.out] at ho24)); have n0_ := Aside0.mk (Kd.R_elder' (by (with_reducible repeat (first | apply Kd.R_alloc | apply Kd.R_drewN | apply Kd.R_drew)); exact HO_3.out) (Kd.R_base ho24) hb); have n1_ := Aside0.mk (Kd.R_lower (Kd.R_new' ho24 (Kd.R_lt (by (with_reducible repeat (first | apply Kd.R_alloc | apply Kd.R_drewN | apply Kd.R_drew)); exact HO_3.out))) (below_size (by repeat (first | (with_reducible first | exact HB.out | apply below_alloc | apply pw_below_drewN | apply below_drew1) | exact HB.out)))); have n2_ := Aside0.mk (below_step (by repeat (first | (with_reducible first | exact HB.out | apply below_alloc | apply pw_below_drewN | apply below_drew1) | exact HB.out)) hb); clear HO_3; clear HB; have HO_3 := n0_; have HO259 := n1_; have HB := n2_; clear n0_ n1_ n2_; clear hb ho24; obtain ⟨Ao26, co26, eo26⟩ := Kd.R_slice HO259.out; subst eo26) | ((with_reducible refine gate_builtin (b := .append) (xs := #[.tmp 47, .tmp 48]) rfl ?_); at_builtin; refine Kd.R_append_rows (Kd.int .u8) (w0 := w) w.heap.size rfl (.tmp 47) (.tmp 48) 70 5 (.int .u8 0) 1 rfl Tryd.underlying70 info5 rfl (by decide) (by omega) u3 x3_1 y257 _ _ _ (fun k_ => some k_ ≠ (.slice Ao26 y257.length co26 : Value).ownBlock) (fun _ => False) rfl rfl ?aO ?aR (fun _ _ h => h) (fun _ h => h.elim) ?aF ?aB ?aS ?aL ?_; (case aR => repeat (first | exact (Kd.R_reads' HO259.out).2.2 | (with_reducible refine Kd.C_alloc ?_ _) | (with_reducible refine Kd.C_drewN ?_ _) | (with_reducible refine Kd.C_drew ?_))); (case aB => exact (by repeat (first | (with_reducible first | exact HB.out | apply below_alloc | apply pw_below_drewN | apply below_drew1) | exact HB.out))); (case aF => exact (fun k_ hk => Kd.fresh' (Kd.R_lt (by (with_reducible repeat (first | apply Kd.R_alloc | apply Kd.R_drewN | apply Kd.R_drew)); exact HO259.out)) k_ hk)); (case aO => exact (by (with_reducible repeat (first | apply Kd.R_alloc | apply Kd.R_drewN | apply Kd.R_drew)); exact Kd.R_mono HO_3.out (fun _ hk => hk.2))); (case aS => exact (below_size (by repeat (first | (with_reducible first | exact HB.out | apply below_alloc | apply pw_below_drewN | apply below_drew1) | exact HB.out)))); (case aL => have := LMc22.out; omega); intro v261 w25 ho hb hg hat; rw [← Ny260.out] at ho; have n0_ := Aside0.mk (Kd.R_after (ok := (fun _ => True)) (by (with_reducible repeat (first | apply Kd.R_alloc | apply Kd.R_drewN | apply Kd.R_drew)); exact HO259.out) hg hat); have n1_ := Aside0.mk (hb); have n2_ := Aside0.mk (ho); clear HO259; clear HB; clear HO_3; have HO259 := n0_; have HB := n1_; have HO262 := n2_; clear n0_ n1_ n2_; clear ho hb hg hat))
                      go_roundg kj6
                      case measure => have := HK1.out; have := HJ6.out; omega
                      case rel => exact ⟨(y260), (wrap64 (x4_1 + 1)), (by first | rfl | (simp; done) | (simp [*]; done) | (simp; unfold wrap64; omega)), H', ⟨by have := HK1.out; have := HJ6.out; omega⟩, ⟨by (with_reducible repeat (first | apply Kd.R_alloc | apply Kd.R_drewN | apply Kd.R_drew)); exact Kd.R_mono HO262.out (fun _ hk => trivial)⟩, ⟨by repeat (first | (with_reducible first | exact HB.out | apply below_alloc | apply pw_below_drewN | apply below_drew1) | exact HB.out)⟩⟩
                    · rw [if_neg c22] at H
                      exact absurd H (by simp)
                  · rw [if_neg c21] at H
                    have c21b0 : ((wrap64 (bt a0 x4_1)) == 9) = false := beq_eq_false_iff_ne.mpr c21
                    have c21b1 : ((wrap64 (bt a0 x4_1)) != 9) = true := bne_iff_ne.mpr c21
                    have HC27 := Aside0.mk H
                    clear H
                    go_upto_region 13 with (fail)
                    go_cut [50] (fun v50 wc => ∃ (kq : Nat) (x50_26 : Bool), v50 = .bool x50_26 ∧ Aside0 (refrainref1_quoted.j2 kq a0 x3_1 x4_1 (wrap64 (bt a0 x4_1)) x50_26 = some r) ∧ Aside0 (kq ≤ kj6) ∧ Aside0 (Kd.R (Kd.int .u8) 5 wc w.heap.size (fun _ => True) u3 x3_1) ∧ Aside0 (Below w.heap.size w wc))
                    case first =>
                      have H := HC27.out
                      clear HC27
                      by_cases c28 : (wrap64 (bt a0 x4_1)) ≥ 32
                      · rw [if_pos c28] at H
                        have c28b0 : decide (32 ≤ (wrap64 (bt a0 x4_1))) = true := decide_eq_true c28
                        clear c28
                        (first | rw [c28b0] | (simp only [i64_w, i32_w, IntKind.wrap_u8, IntKind.wrap_u16, IntKind.wrap_u32]; rw [c28b0]) | skip)
                        have H' := Aside0.mk H
                        clear H
                        go_wp2
                        go_meet
                        case rel => exact ⟨_, (decide ((wrap64 (bt a0 x4_1)) ≤ 126)), (by first | rfl | (simp; done) | (simp [*]; done) | (simp; unfold wrap64; omega)), H', ⟨by have := HK1.out; have := HJ6.out; first | omega | exact Nat.le_refl _⟩, ⟨by (with_reducible repeat (first | apply Kd.R_alloc | apply Kd.R_drewN | apply Kd.R_drew)); exact HO_3.out⟩, ⟨by repeat (first | (with_reducible first | exact HB.out | apply below_alloc | apply pw_below_drewN | apply below_drew1) | exact HB.out)⟩⟩
                      · rw [if_neg c28] at H
                        have c28b0 : decide (32 ≤ (wrap64 (bt a0 x4_1))) = false := decide_eq_false c28
                        clear c28
                        (first | rw [c28b0] | (simp only [i64_w, i32_w, IntKind.wrap_u8, IntKind.wrap_u16, IntKind.wrap_u32]; rw [c28b0]) | skip)
                        have H' := Aside0.mk H
                        clear H
                        go_wp2
                        go_meet
                        case rel => exact ⟨_, (false), (by first | rfl | (simp; done) | (simp [*]; done) | (simp; unfold wrap64; omega)), H', ⟨by have := HK1.out; have := HJ6.out; first | omega | exact Nat.le_refl _⟩, ⟨by (with_reducible repeat (first | apply Kd.R_alloc | apply Kd.R_drewN | apply Kd.R_drew)); exact HO_3.out⟩, ⟨by repeat (first | (with_reducible first | exact HB.out | apply below_alloc | apply pw_below_drewN | apply below_drew1) | exact HB.out)⟩⟩
                    case rest =>
                      clear HC27
                      try clear c1
                      try clear c2
                      try clear p2
                      try clear c3
                      try clear c4
                      try clear c4b0
                      try clear c5
                      try clear c5b0
                      try clear p6
                      try clear q6
                      try clear hx6
                      try clear c8
                      try clear c8b0
                      try clear c8b1
                      try clear c9
                      try clear c10
                      try clear c15
                      try clear c15b0
                      try clear c15b1
                      try clear c16
                      try clear c21
                      try clear c21b0
                      try clear c21b1
                      try clear c22
                      try clear c28
                      try clear c28b0
                      try clear p2
                      try clear p6
                      try clear q6
                      obtain ⟨kq, x50_26, rfl, HA, HJ26, HO_3, HB⟩ := hcut
                      cases kq with
                      | zero => (have HA2 := HA.out; clear HA; revert HA2; rw [refrainref1_quoted.j2_zero]; intro h_; cases h_)
                      | succ kj26 =>
                        have H := HA.out
                        clear HA
                        simp only [refrainref1_quoted.j2] at H
                        by_cases c29 : x50_26 = true
                        · subst c29
                          have H1 : (if x3_1.length < 140737488355328 then (refrainref1_quoted.l0 kj26 a0 (x3_1 ++ [((wrap64 (bt a0 x4_1))) % 256]) (wrap64 (x4_1 + 1))) else (none)) = some r := by rw [if_pos rfl] at H; exact H
                          clear H
                          have H := H1
                          clear H1
                          by_cases c30 : x3_1.length < 140737488355328
                          · rw [if_pos c30] at H
                            have LMc30 := Aside0.mk c30
                            clear c30
                            obtain ⟨y263, hy263⟩ : ∃ y_ : List Int, y_ = (x3_1 ++ [((wrap64 (bt a0 x4_1))) % 256]) := ⟨_, rfl⟩
                            replace H : (refrainref1_quoted.l0 kj26 a0 y263 (wrap64 (x4_1 + 1))) = some r := by first | (rw [hy263]; with_reducible exact H) | (have H2_ := (Option.bind_some _ _).symm.trans H; rw [hy263]; with_reducible exact H2_) | (have H2_ := (Option.bind_some _ _).symm.trans H; with_reducible exact H2_) | with_reducible exact H | (rw [hy263]; exact H) | exact H
                            have Ny263 := Aside0.mk hy263
                            clear hy263
                            have H' := Aside0.mk H
                            clear H
                            go_wp2_with (first | ((with_reducible refine gate_builtin (b := .append) (xs := #[.tmp 57, .tmp 60]) rfl ?_); at_builtin; refine Kd.R_append (Kd.int .u8) (w0 := w) w.heap.size rfl (.tmp 57) (.tmp 60) 70 5 (.int .u8 0) 1 rfl Tryd.underlying70 info5 rfl (by decide) (by omega) u3 x3_1 (((wrap64 (bt a0 x4_1))) % 256) [.int .u8 (((wrap64 (bt a0 x4_1))) % 256)] (fun _ => True) (fun _ => False) rfl rfl ?aP (fun _ hk => hk.elim) ?aF ?aO ?aB ?aS ?aL ?_; (case aP => exact rfl); (case aB => exact (by repeat (first | (with_reducible first | exact HB.out | apply below_alloc | apply pw_below_drewN | apply below_drew1) | exact HB.out))); (case aF => exact (fun _ _ => trivial)); (case aO => exact (by (with_reducible repeat (first | apply Kd.R_alloc | apply Kd.R_drewN | apply Kd.R_drew)); exact HO_3.out)); (case aS => exact (below_size (by repeat (first | (with_reducible first | exact HB.out | apply below_alloc | apply pw_below_drewN | apply below_drew1) | exact HB.out)))); (case aL => have := LMc30.out; omega); intro v264 w31 ho hb hg hat; rw [← Ny263.out] at ho; have n0_ := Aside0.mk (hb); have n1_ := Aside0.mk (ho); clear HB; clear HO_3; have HB := n0_; have HO265 := n1_; clear n0_ n1_; clear ho hb hg hat))
                            go_roundg kj26
                            case measure => have := HK1.out; have := HJ6.out; have := HJ26.out; omega
                            case rel => exact ⟨(y263), (wrap64 (x4_1 + 1)), (by first | rfl | (simp; done) | (simp [*]; done) | (simp; unfold wrap64; omega)), H', ⟨by have := HK1.out; have := HJ6.out; have := HJ26.out; omega⟩, ⟨by (with_reducible repeat (first | apply Kd.R_alloc | apply Kd.R_drewN | apply Kd.R_drew)); exact HO265.out⟩, ⟨by repeat (first | (with_reducible first | exact HB.out | apply below_alloc | apply pw_below_drewN | apply below_drew1) | exact HB.out)⟩⟩
                          · rw [if_neg c30] at H
                            exact absurd H (by simp)
                        · replace c29 := Bool.eq_false_iff.mpr c29
                          subst c29
                          have H1 : ((refrainref1_Hex.f (wrap64 (Int.tdiv (wrap64 (bt a0 x4_1)) 16))).bind fun t266 => ((refrainref1_Hex.f (Int.tmod (wrap64 (bt a0 x4_1)) 16)).bind fun t267 => ((some (([92, 120, t266, t267] : List Int) : List Int)).bind fun y268 => (if x3_1.length + y268.length < 140737488355328 then (refrainref1_quoted.l0 kj26 a0 (x3_1 ++ y268) (wrap64 (x4_1 + 1))) else (none))))) = some r := by rw [if_neg (show ¬ (false = true) by decide)] at H; exact H
                          clear H
                          have H := H1
                          clear H1
                          replace H := Option.bind_eq_some_iff.mp H
                          obtain ⟨t266, A320, H⟩ := H
                          replace H : ((refrainref1_Hex.f (Int.tmod (wrap64 (bt a0 x4_1)) 16)).bind fun t267 => ((some (([92, 120, t266, t267] : List Int) : List Int)).bind fun y268 => (if x3_1.length + y268.length < 140737488355328 then (refrainref1_quoted.l0 kj26 a0 (x3_1 ++ y268) (wrap64 (x4_1 + 1))) else (none)))) = some r := H
                          have A32 := Aside0.mk A320
                          clear A320
                          replace H := Option.bind_eq_some_iff.mp H
                          obtain ⟨t267, A330, H⟩ := H
                          replace H : ((some (([92, 120, t266, t267] : List Int) : List Int)).bind fun y268 => (if x3_1.length + y268.length < 140737488355328 then (refrainref1_quoted.l0 kj26 a0 (x3_1 ++ y268) (wrap64 (x4_1 + 1))) else (none))) = some r := H
                          have A33 := Aside0.mk A330
                          clear A330
                          obtain ⟨y268, hy268⟩ : ∃ y_ : List Int, y_ = (([92, 120, t266, t267] : List Int)) := ⟨_, rfl⟩
                          replace H : (if x3_1.length + y268.length < 140737488355328 then (refrainref1_quoted.l0 kj26 a0 (x3_1 ++ y268) (wrap64 (x4_1 + 1))) else (none)) = some r := by first | (rw [hy268]; with_reducible exact H) | (have H2_ := (Option.bind_some _ _).symm.trans H; rw [hy268]; with_reducible exact H2_) | (have H2_ := (Option.bind_some _ _).symm.trans H; with_reducible exact H2_) | with_reducible exact H | (rw [hy268]; exact H) | exact H
                          have Ny268 := Aside0.mk hy268
                          clear hy268
                          by_cases c34 : x3_1.length + y268.length < 140737488355328
                          · rw [if_pos c34] at H
                            have LMc34 := Aside0.mk c34
                            clear c34
                            obtain ⟨y271, hy271⟩ : ∃ y_ : List Int, y_ = (x3_1 ++ y268) := ⟨_, rfl⟩
                            replace H : (refrainref1_quoted.l0 kj26 a0 y271 (wrap64 (x4_1 + 1))) = some r := by first | (rw [hy271]; with_reducible exact H) | (have H2_ := (Option.bind_some _ _).symm.trans H; rw [hy271]; with_reducible exact H2_) | (have H2_ := (Option.bind_some _ _).symm.trans H; with_reducible exact H2_) | with_reducible exact H | (rw [hy271]; exact H) | exact H
                            have Ny271 := Aside0.mk hy271
                            clear hy271
                            have H' := Aside0.mk H
                            clear H
                            go_wp2_with (first | ((with_reducible refine gate_callee (f := 59) rfl ?_); refine goesL_ (some 20) rfl rfl Tryd.func59 (by kernel_rfl) rfl #[.int .i64 (wrap64 (Int.tdiv (wrap64 (bt a0 x4_1)) 16))] rfl (by (try simp only [List.map_toArray, List.map_cons, List.map_nil]); first | done | rfl | (simp only [List.length_drop, List.length_take]; rfl)) ?_; (with_reducible refine (refrainref1_Hex.calls (wrap64 (Int.tdiv (wrap64 (bt a0 x4_1)) 16)) t266 _ A32.out).mono ?_); rintro e w' ⟨rfl, ⟨nd, rfl⟩⟩; refine ⟨_, rfl, ?_⟩) | ((with_reducible refine gate_callee (f := 59) rfl ?_); refine goesL_ (some 23) rfl rfl Tryd.func59 (by kernel_rfl) rfl #[.int .i64 (Int.tmod (wrap64 (bt a0 x4_1)) 16)] rfl (by (try simp only [List.map_toArray, List.map_cons, List.map_nil]); first | done | rfl | (simp only [List.length_drop, List.length_take]; rfl)) ?_; (with_reducible refine (refrainref1_Hex.calls (Int.tmod (wrap64 (bt a0 x4_1)) 16) t267 _ A33.out).mono ?_); rintro e w' ⟨rfl, ⟨nd, rfl⟩⟩; refine ⟨_, rfl, ?_⟩) | ((with_reducible refine gate_dst (N := 24) rfl ?_); refine Kd.R_lit (Kd.int .u8) _ 5 ?hg (N := 24) ?hd (xs := ([92, 120, t266, t267] : List Int)) (inner := [.int .u8 92, .int .u8 120, .int .u8 t266, .int .u8 t267]) (ok := fun _ => True) (okp := fun _ => True) ?hr ?hp (fun _ hk => hk) trivial (Below.refl _ _) (Nat.le_refl _) (by simp) ?_; (case hd => rfl); (case hg => rfl); (case hr => first | (go_simp; done) | (go_simp; rfl)); (case hp => exact (Reps.one (show Kd.M (Kd.int .u8) _ _ _ 92 [.int .u8 92] from rfl) (Reps.one (show Kd.M (Kd.int .u8) _ _ _ 120 [.int .u8 120] from rfl) (Reps.one (show Kd.M (Kd.int .u8) _ _ _ t266 [.int .u8 t266] from rfl) (Reps.one (show Kd.M (Kd.int .u8) _ _ _ t267 [.int .u8 t267] from rfl) (Reps.none _ _)))))); intro v269 w35 ho36 hb hg_ hnew_; clear hg_ hnew_; (first | rw [← Ny268.out] at ho36 | (simp only [Int.reduceToNat] at ho36; rw [← Ny268.out] at ho36)); have n0_ := Aside0.mk (Kd.R_elder' (by (with_reducible repeat (first | apply Kd.R_alloc | apply Kd.R_drewN | apply Kd.R_drew)); exact HO_3.out) (Kd.R_base ho36) hb); have n1_ := Aside0.mk (Kd.R_lower (Kd.R_new' ho36 (Kd.R_lt (by (with_reducible repeat (first | apply Kd.R_alloc | apply Kd.R_drewN | apply Kd.R_drew)); exact HO_3.out))) (below_size (by repeat (first | (with_reducible first | exact HB.out | apply below_alloc | apply pw_below_drewN | apply below_drew1) | exact HB.out)))); have n2_ := Aside0.mk (below_step (by repeat (first | (with_reducible first | exact HB.out | apply below_alloc | apply pw_below_drewN | apply below_drew1) | exact HB.out)) hb); clear HO_3; clear HB; have HO_3 := n0_; have HO270 := n1_; have HB := n2_; clear n0_ n1_ n2_; clear hb ho36; obtain ⟨Ao38, co38, eo38⟩ := Kd.R_slice HO270.out; subst eo38) | ((with_reducible refine gate_builtin (b := .append) (xs := #[.tmp 17, .tmp 24]) rfl ?_); at_builtin; refine Kd.R_append_rows (Kd.int .u8) (w0 := w) w.heap.size rfl (.tmp 17) (.tmp 24) 70 5 (.int .u8 0) 1 rfl Tryd.underlying70 info5 rfl (by decide) (by omega) u3 x3_1 y268 _ _ _ (fun k_ => some k_ ≠ (.slice Ao38 y268.length co38 : Value).ownBlock) (fun _ => False) rfl rfl ?aO ?aR (fun _ _ h => h) (fun _ h => h.elim) ?aF ?aB ?aS ?aL ?_; (case aR => repeat (first | exact (Kd.R_reads' HO270.out).2.2 | (with_reducible refine Kd.C_alloc ?_ _) | (with_reducible refine Kd.C_drewN ?_ _) | (with_reducible refine Kd.C_drew ?_))); (case aB => exact (by repeat (first | (with_reducible first | exact HB.out | apply below_alloc | apply pw_below_drewN | apply below_drew1) | exact HB.out))); (case aF => exact (fun k_ hk => Kd.fresh' (Kd.R_lt (by (with_reducible repeat (first | apply Kd.R_alloc | apply Kd.R_drewN | apply Kd.R_drew)); exact HO270.out)) k_ hk)); (case aO => exact (by (with_reducible repeat (first | apply Kd.R_alloc | apply Kd.R_drewN | apply Kd.R_drew)); exact Kd.R_mono HO_3.out (fun _ hk => hk.2))); (case aS => exact (below_size (by repeat (first | (with_reducible first | exact HB.out | apply below_alloc | apply pw_below_drewN | apply below_drew1) | exact HB.out)))); (case aL => have := LMc34.out; omega); intro v272 w37 ho hb hg hat; rw [← Ny271.out] at ho; have n0_ := Aside0.mk (Kd.R_after (ok := (fun _ => True)) (by (with_reducible repeat (first | apply Kd.R_alloc | apply Kd.R_drewN | apply Kd.R_drew)); exact HO270.out) hg hat); have n1_ := Aside0.mk (hb); have n2_ := Aside0.mk (ho); clear HO270; clear HB; clear HO_3; have HO270 := n0_; have HB := n1_; have HO273 := n2_; clear n0_ n1_ n2_; clear ho hb hg hat))
                            go_roundg kj26
                            case measure => have := HK1.out; have := HJ6.out; have := HJ26.out; omega
                            case rel => exact ⟨(y271), (wrap64 (x4_1 + 1)), (by first | rfl | (simp; done) | (simp [*]; done) | (simp; unfold wrap64; omega)), H', ⟨by have := HK1.out; have := HJ6.out; have := HJ26.out; omega⟩, ⟨by (with_reducible repeat (first | apply Kd.R_alloc | apply Kd.R_drewN | apply Kd.R_drew)); exact Kd.R_mono HO273.out (fun _ hk => trivial)⟩, ⟨by repeat (first | (with_reducible first | exact HB.out | apply below_alloc | apply pw_below_drewN | apply below_drew1) | exact HB.out)⟩⟩
                          · rw [if_neg c34] at H
                            exact absurd H (by simp)
        · rw [if_neg c5] at H
          exact absurd H (by simp)
      · rw [if_neg c4] at H
        have c4b0 : decide (x4_1 < (a0.size : Int)) = false := decide_eq_false c4
        clear c4
        by_cases c39 : x3_1.length < 140737488355328
        · rw [if_pos c39] at H
          have LMc39 := Aside0.mk c39
          clear c39
          obtain ⟨y242, hy242⟩ : ∃ y_ : List Int, y_ = (x3_1 ++ [34]) := ⟨_, rfl⟩
          replace H : (some (strOfNums y242)) = some r := by first | (rw [hy242]; with_reducible exact H) | (have H2_ := (Option.bind_some _ _).symm.trans H; rw [hy242]; with_reducible exact H2_) | (have H2_ := (Option.bind_some _ _).symm.trans H; with_reducible exact H2_) | with_reducible exact H | (rw [hy242]; exact H) | exact H
          have Ny242 := Aside0.mk hy242
          clear hy242
          obtain rfl := Option.some.inj H
          go_wp2_with (first | ((with_reducible refine gate_builtin (b := .append) (xs := #[.tmp 62, .tmp 63]) rfl ?_); at_builtin; refine Kd.R_append (Kd.int .u8) (w0 := w) w.heap.size rfl (.tmp 62) (.tmp 63) 70 5 (.int .u8 0) 1 rfl Tryd.underlying70 info5 rfl (by decide) (by omega) u3 x3_1 34 [.int .u8 34] (fun _ => True) (fun _ => False) rfl rfl ?aP (fun _ hk => hk.elim) ?aF ?aO ?aB ?aS ?aL ?_; (case aP => exact rfl); (case aB => exact (by repeat (first | (with_reducible first | exact HB.out | apply below_alloc | apply pw_below_drewN | apply below_drew1) | exact HB.out))); (case aF => exact (fun _ _ => trivial)); (case aO => exact (by (with_reducible repeat (first | apply Kd.R_alloc | apply Kd.R_drewN | apply Kd.R_drew)); exact HO_3.out)); (case aS => exact (below_size (by repeat (first | (with_reducible first | exact HB.out | apply below_alloc | apply pw_below_drewN | apply below_drew1) | exact HB.out)))); (case aL => have := LMc39.out; omega); intro v243 w40 ho hb hg hat; rw [← Ny242.out] at ho; have n0_ := Aside0.mk (hb); have n1_ := Aside0.mk (ho); clear HB; clear HO_3; have HB := n0_; have HO244 := n1_; clear n0_ n1_; clear ho hb hg hat; have hcv41 := own_string (P := Tryd.prog) Tryd.underlying70 Tryd.underlying5 Tryd.underlying9 (Kd.own_of_R HO244.out)))
          go_ret
          exact ⟨by first | rfl | (simp [errW_none, errW_some] <;> rfl) | (simp [*, errW_none, errW_some] <;> rfl), by repeat (first | (with_reducible first | exact HB.out | apply below_alloc | apply pw_below_drewN | apply below_drew1) | exact HB.out)⟩
        · rw [if_neg c39] at H
          exact absurd H (by simp)

/-! ### refrainref1_Show: function 14 -/
def refrainref1_Show.f (k : Nat) (a0_0 : Int) (a0_1 : Int) (a0_2 : ByteArray) (a0_3 : Bool) : Option (ByteArray × Int) := (refrainref1_Valid.f a0_0 a0_1 a0_2 a0_3).bind fun t275 => (if t275 = true then (if a0_0 = 1 then (if a0_1 < 0 then ((refrainref1_digits.f k (IntKind.u64.wrap ((IntKind.u64.wrap (wrap64 (-(wrap64 (a0_1 + 1))))) + 1))).bind fun t276 => (if 1 + t276.size ≤ 9223372036854775807 then (some ((⟨#[45]⟩ : ByteArray) ++ t276, 0)) else (none))) else ((refrainref1_digits.f k (IntKind.u64.wrap (a0_1))).bind fun t277 => (some (t277, 0)))) else (if a0_0 = 2 then ((refrainref1_quoted.f k a0_2).bind fun t278 => (some (t278, 0))) else (if a0_3 = true then (some ((⟨#[84, 82, 85, 69]⟩ : ByteArray), 0)) else (some ((⟨#[70, 65, 76, 83, 69]⟩ : ByteArray), 0))))) else (some ((⟨#[]⟩ : ByteArray), 12)))
set_option maxRecDepth 100000 in
theorem refrainref1_Show.mono : ∀ a0 a1 a2 a3 k, LeO (refrainref1_Show.f k a0 a1 a2 a3) (refrainref1_Show.f (k + 1) a0 a1 a2 a3) := by
  intro a0 a1 a2 a3 k
  unfold refrainref1_Show.f
  repeat' first
      | (with_reducible exact refrainref1_digits.mono _ _)
      | (with_reducible exact refrainref1_quoted.mono _ _)
      | (with_reducible exact LeO.refl _)
      | (with_reducible exact LeO.none _)
      | (with_reducible refine LeO.ite ?_ ?_)
      | (with_reducible refine LeO.bind ?_ (fun _ => ?_))
      | exact refrainref1_digits.mono _ _
      | exact refrainref1_quoted.mono _ _
      | exact LeO.none _
      | refine LeO.ite ?_ ?_
      | refine LeO.bind ?_ (fun _ => ?_)
set_option maxHeartbeats 8000000 in
set_option maxRecDepth 100000 in
theorem refrainref1_Show.calls (k : Nat) (a0_0 : Int) (a0_1 : Int) (a0_2 : ByteArray) (a0_3 : Bool) (r1 : ByteArray) (r2 : Int) (w : World) (h : refrainref1_Show.f k a0_0 a0_1 a0_2 a0_3 = some (r1, r2)) :
    Calls Tryd.prog 14 #[.agg #[.int .i64 a0_0, .int .i64 a0_1, .string a0_2, .bool a0_3]] w fun e w' => e = .returned (.tuple #[.string r1, .int .i64 r2]) ∧ Below w.heap.size w w' := by
  have hu26 := Tryd.underlying26
  have HB := Aside0.mk (Below.refl w.heap.size w)
  have H : ((refrainref1_Valid.f a0_0 a0_1 a0_2 a0_3).bind fun t275 => (if t275 = true then (if a0_0 = 1 then (if a0_1 < 0 then ((refrainref1_digits.f k (IntKind.u64.wrap ((IntKind.u64.wrap (wrap64 (-(wrap64 (a0_1 + 1))))) + 1))).bind fun t276 => (if 1 + t276.size ≤ 9223372036854775807 then (some ((⟨#[45]⟩ : ByteArray) ++ t276, 0)) else (none))) else ((refrainref1_digits.f k (IntKind.u64.wrap (a0_1))).bind fun t277 => (some (t277, 0)))) else (if a0_0 = 2 then ((refrainref1_quoted.f k a0_2).bind fun t278 => (some (t278, 0))) else (if a0_3 = true then (some ((⟨#[84, 82, 85, 69]⟩ : ByteArray), 0)) else (some ((⟨#[70, 65, 76, 83, 69]⟩ : ByteArray), 0))))) else (some ((⟨#[]⟩ : ByteArray), 12)))) = some (r1, r2) := h
  clear h
  replace H := Option.bind_eq_some_iff.mp H
  obtain ⟨t275, A20, H⟩ := H
  replace H : (if t275 = true then (if a0_0 = 1 then (if a0_1 < 0 then ((refrainref1_digits.f k (IntKind.u64.wrap ((IntKind.u64.wrap (wrap64 (-(wrap64 (a0_1 + 1))))) + 1))).bind fun t276 => (if 1 + t276.size ≤ 9223372036854775807 then (some ((⟨#[45]⟩ : ByteArray) ++ t276, 0)) else (none))) else ((refrainref1_digits.f k (IntKind.u64.wrap (a0_1))).bind fun t277 => (some (t277, 0)))) else (if a0_0 = 2 then ((refrainref1_quoted.f k a0_2).bind fun t278 => (some (t278, 0))) else (if a0_3 = true then (some ((⟨#[84, 82, 85, 69]⟩ : ByteArray), 0)) else (some ((⟨#[70, 65, 76, 83, 69]⟩ : ByteArray), 0))))) else (some ((⟨#[]⟩ : ByteArray), 12))) = some (r1, r2) := H
  have A2 := Aside0.mk A20
  clear A20
  by_cases c3 : t275 = true
  · subst c3
    have H1 : (if a0_0 = 1 then (if a0_1 < 0 then ((refrainref1_digits.f k (IntKind.u64.wrap ((IntKind.u64.wrap (wrap64 (-(wrap64 (a0_1 + 1))))) + 1))).bind fun t276 => (if 1 + t276.size ≤ 9223372036854775807 then (some ((⟨#[45]⟩ : ByteArray) ++ t276, 0)) else (none))) else ((refrainref1_digits.f k (IntKind.u64.wrap (a0_1))).bind fun t277 => (some (t277, 0)))) else (if a0_0 = 2 then ((refrainref1_quoted.f k a0_2).bind fun t278 => (some (t278, 0))) else (if a0_3 = true then (some ((⟨#[84, 82, 85, 69]⟩ : ByteArray), 0)) else (some ((⟨#[70, 65, 76, 83, 69]⟩ : ByteArray), 0))))) = some (r1, r2) := by rw [if_pos rfl] at H; exact H
    clear H
    have H := H1
    clear H1
    by_cases c4 : a0_0 = 1
    · rw [if_pos c4] at H
      have c4b0 : (a0_0 == 1) = true := beq_iff_eq.mpr c4
      have c4b1 : (a0_0 != 1) = false := bne_eq_false_iff_eq.mpr c4
      clear c4
      by_cases c5 : a0_1 < 0
      · rw [if_pos c5] at H
        have c5b0 : decide (a0_1 < 0) = true := decide_eq_true c5
        clear c5
        replace H := Option.bind_eq_some_iff.mp H
        obtain ⟨t276, A60, H⟩ := H
        replace H : (if 1 + t276.size ≤ 9223372036854775807 then (some ((⟨#[45]⟩ : ByteArray) ++ t276, 0)) else (none)) = some (r1, r2) := H
        have A6 := Aside0.mk A60
        clear A60
        by_cases c7 : 1 + t276.size ≤ 9223372036854775807
        · rw [if_pos c7] at H
          have c7b0 := eq_true c7
          have c7b1 : decide (1 + t276.size ≤ 9223372036854775807) = true := decide_eq_true c7
          try have c7b2 : (9223372036854775807 < 1 + t276.size) = False := eq_false (Nat.not_lt.2 c7)
          simp only [Option.some.injEq, Prod.mk.injEq] at H
          obtain ⟨rfl, rfl⟩ := H
          go_enter Tryd.func14, Tryd.ntmps14
          go_wp2_with (first | ((with_reducible refine gate_dst (N := 1) rfl ?_); refine box_event ?hg (N := 1) ?hd (cs := #[.int .i64 a0_0, .int .i64 a0_1, .string a0_2, .bool a0_3]) (t := 26) ?hr ?_; (case hd => rfl); (case hg => rfl); (case hr => first | (go_simp; done) | (go_simp; rfl)); intro gb274 hg w8 hbox hb; have n0_ := Aside0.mk (below_step (by repeat (first | (with_reducible first | exact HB.out | apply below_alloc | apply pw_below_drewN | apply below_drew1) | exact HB.out)) hb); have n1_ := Aside0.mk (hbox); have n2_ := Aside0.mk ((by rw [hg]; exact (below_size (by repeat (first | (with_reducible first | exact HB.out | apply below_alloc | apply pw_below_drewN | apply below_drew1) | exact HB.out))) : w.heap.size ≤ gb274)); have n3_ := Aside0.mk ((by rw [hg]; exact (below_size (by repeat (first | (with_reducible first | exact HB.out | apply below_alloc | apply pw_below_drewN | apply below_drew1) | exact HB.out))) : w.heap.size ≤ gb274)); clear HB; have HB := n0_; have BK274 := n1_; have GW274 := n2_; have GE274 := n3_; clear n0_ n1_ n2_ n3_; clear hb hbox hg; have hcz9_0 : w8.cell? ⟨gb274, 0, none⟩ = some (.int .i64 a0_0) := (blk_cell BK274.out 0).trans rfl; have hcz9_1 : w8.cell? ⟨gb274, 1, none⟩ = some (.int .i64 a0_1) := (blk_cell BK274.out 1).trans rfl; have hcz9_2 : w8.cell? ⟨gb274, 2, none⟩ = some (.string a0_2) := (blk_cell BK274.out 2).trans rfl; have hcz9_3 : w8.cell? ⟨gb274, 3, none⟩ = some (.bool a0_3) := (blk_cell BK274.out 3).trans rfl; have hfz9_0 := blk_frozen BK274.out 0; have hfz9_1 := blk_frozen BK274.out 1; have hfz9_2 := blk_frozen BK274.out 2; have hfz9_3 := blk_frozen BK274.out 3) | ((with_reducible refine gate_callee (f := 12) rfl ?_); refine goesL_ (some 6) rfl rfl Tryd.func12 (by kernel_rfl) rfl #[.agg #[.int .i64 a0_0, .int .i64 a0_1, .string a0_2, .bool a0_3]] rfl (by (try simp only [List.map_toArray, List.map_cons, List.map_nil]); first | done | rfl | (simp only [List.length_drop, List.length_take]; rfl)) ?_; (with_reducible refine (refrainref1_Valid.calls a0_0 a0_1 a0_2 a0_3 true _ A2.out).mono ?_); rintro e w10 ⟨rfl, hb⟩; refine ⟨_, rfl, ?_⟩; have n0_ := Aside0.mk (blk_below (g := gb274) (o := .cells #[.int .i64 a0_0, .int .i64 a0_1, .string a0_2, .bool a0_3] 26 (0, 0)) (by (with_reducible repeat (first | refine blk_drewN ?_ _ | refine blk_drew ?_ | refine blk_alloc ?_ _)); exact BK274.out) hb); have n1_ := Aside0.mk (below_step (by repeat (first | (with_reducible first | exact HB.out | apply below_alloc | apply pw_below_drewN | apply below_drew1 | refine below_set ?_ GE274.out) | exact HB.out)) hb); clear BK274; clear HB; have BK274 := n0_; have HB := n1_; clear n0_ n1_; (try clear hb); (try clear hb2); (try clear hk); (try clear hi); have hcz11_0 : w10.cell? ⟨gb274, 0, none⟩ = some (.int .i64 a0_0) := (blk_cell BK274.out 0).trans rfl; have hcz11_1 : w10.cell? ⟨gb274, 1, none⟩ = some (.int .i64 a0_1) := (blk_cell BK274.out 1).trans rfl; have hcz11_2 : w10.cell? ⟨gb274, 2, none⟩ = some (.string a0_2) := (blk_cell BK274.out 2).trans rfl; have hcz11_3 : w10.cell? ⟨gb274, 3, none⟩ = some (.bool a0_3) := (blk_cell BK274.out 3).trans rfl; have hfz11_0 := blk_frozen BK274.out 0; have hfz11_1 := blk_frozen BK274.out 1; have hfz11_2 := blk_frozen BK274.out 2; have hfz11_3 := blk_frozen BK274.out 3) | ((with_reducible refine gate_callee (f := 33) rfl ?_); refine goesL_ (some 22) rfl rfl Tryd.func33 (by kernel_rfl) rfl #[.int .u64 (IntKind.u64.wrap ((IntKind.u64.wrap (wrap64 (-(wrap64 (a0_1 + 1))))) + 1))] rfl (by (try simp only [List.map_toArray, List.map_cons, List.map_nil]); first | done | rfl | (simp only [List.length_drop, List.length_take]; rfl)) ?_; (with_reducible refine (refrainref1_digits.calls k (IntKind.u64.wrap ((IntKind.u64.wrap (wrap64 (-(wrap64 (a0_1 + 1))))) + 1)) t276 _ A6.out).mono ?_); rintro e w12 ⟨rfl, hb⟩; refine ⟨_, rfl, ?_⟩; have n0_ := Aside0.mk (blk_below (g := gb274) (o := .cells #[.int .i64 a0_0, .int .i64 a0_1, .string a0_2, .bool a0_3] 26 (0, 0)) (by (with_reducible repeat (first | refine blk_drewN ?_ _ | refine blk_drew ?_ | refine blk_alloc ?_ _)); exact BK274.out) hb); have n1_ := Aside0.mk (below_step (by repeat (first | (with_reducible first | exact HB.out | apply below_alloc | apply pw_below_drewN | apply below_drew1 | refine below_set ?_ GE274.out) | exact HB.out)) hb); clear BK274; clear HB; have BK274 := n0_; have HB := n1_; clear n0_ n1_; (try clear hb); (try clear hb2); (try clear hk); (try clear hi)))
          go_ret2
          exact ⟨by first | rfl | (simp [errW_none, errW_some] <;> rfl) | (simp [*, errW_none, errW_some] <;> rfl), by repeat (first | (with_reducible first | exact HB.out | apply below_alloc | apply pw_below_drewN | apply below_drew1 | refine below_set ?_ GE274.out) | exact HB.out)⟩
        · rw [if_neg c7] at H
          exact absurd H (by simp)
      · rw [if_neg c5] at H
        have c5b0 : decide (a0_1 < 0) = false := decide_eq_false c5
        clear c5
        replace H := Option.bind_eq_some_iff.mp H
        obtain ⟨t277, A130, H⟩ := H
        replace H : (some (t277, 0)) = some (r1, r2) := H
        have A13 := Aside0.mk A130
        clear A130
        simp only [Option.some.injEq, Prod.mk.injEq] at H
        obtain ⟨rfl, rfl⟩ := H
        go_enter Tryd.func14, Tryd.ntmps14
        go_wp2_with (first | ((with_reducible refine gate_dst (N := 1) rfl ?_); refine box_event ?hg (N := 1) ?hd (cs := #[.int .i64 a0_0, .int .i64 a0_1, .string a0_2, .bool a0_3]) (t := 26) ?hr ?_; (case hd => rfl); (case hg => rfl); (case hr => first | (go_simp; done) | (go_simp; rfl)); intro gb274 hg w14 hbox hb; have n0_ := Aside0.mk (below_step (by repeat (first | (with_reducible first | exact HB.out | apply below_alloc | apply pw_below_drewN | apply below_drew1) | exact HB.out)) hb); have n1_ := Aside0.mk (hbox); have n2_ := Aside0.mk ((by rw [hg]; exact (below_size (by repeat (first | (with_reducible first | exact HB.out | apply below_alloc | apply pw_below_drewN | apply below_drew1) | exact HB.out))) : w.heap.size ≤ gb274)); have n3_ := Aside0.mk ((by rw [hg]; exact (below_size (by repeat (first | (with_reducible first | exact HB.out | apply below_alloc | apply pw_below_drewN | apply below_drew1) | exact HB.out))) : w.heap.size ≤ gb274)); clear HB; have HB := n0_; have BK274 := n1_; have GW274 := n2_; have GE274 := n3_; clear n0_ n1_ n2_ n3_; clear hb hbox hg; have hcz15_0 : w14.cell? ⟨gb274, 0, none⟩ = some (.int .i64 a0_0) := (blk_cell BK274.out 0).trans rfl; have hcz15_1 : w14.cell? ⟨gb274, 1, none⟩ = some (.int .i64 a0_1) := (blk_cell BK274.out 1).trans rfl; have hcz15_2 : w14.cell? ⟨gb274, 2, none⟩ = some (.string a0_2) := (blk_cell BK274.out 2).trans rfl; have hcz15_3 : w14.cell? ⟨gb274, 3, none⟩ = some (.bool a0_3) := (blk_cell BK274.out 3).trans rfl; have hfz15_0 := blk_frozen BK274.out 0; have hfz15_1 := blk_frozen BK274.out 1; have hfz15_2 := blk_frozen BK274.out 2; have hfz15_3 := blk_frozen BK274.out 3) | ((with_reducible refine gate_callee (f := 12) rfl ?_); refine goesL_ (some 6) rfl rfl Tryd.func12 (by kernel_rfl) rfl #[.agg #[.int .i64 a0_0, .int .i64 a0_1, .string a0_2, .bool a0_3]] rfl (by (try simp only [List.map_toArray, List.map_cons, List.map_nil]); first | done | rfl | (simp only [List.length_drop, List.length_take]; rfl)) ?_; (with_reducible refine (refrainref1_Valid.calls a0_0 a0_1 a0_2 a0_3 true _ A2.out).mono ?_); rintro e w16 ⟨rfl, hb⟩; refine ⟨_, rfl, ?_⟩; have n0_ := Aside0.mk (blk_below (g := gb274) (o := .cells #[.int .i64 a0_0, .int .i64 a0_1, .string a0_2, .bool a0_3] 26 (0, 0)) (by (with_reducible repeat (first | refine blk_drewN ?_ _ | refine blk_drew ?_ | refine blk_alloc ?_ _)); exact BK274.out) hb); have n1_ := Aside0.mk (below_step (by repeat (first | (with_reducible first | exact HB.out | apply below_alloc | apply pw_below_drewN | apply below_drew1 | refine below_set ?_ GE274.out) | exact HB.out)) hb); clear BK274; clear HB; have BK274 := n0_; have HB := n1_; clear n0_ n1_; (try clear hb); (try clear hb2); (try clear hk); (try clear hi); have hcz17_0 : w16.cell? ⟨gb274, 0, none⟩ = some (.int .i64 a0_0) := (blk_cell BK274.out 0).trans rfl; have hcz17_1 : w16.cell? ⟨gb274, 1, none⟩ = some (.int .i64 a0_1) := (blk_cell BK274.out 1).trans rfl; have hcz17_2 : w16.cell? ⟨gb274, 2, none⟩ = some (.string a0_2) := (blk_cell BK274.out 2).trans rfl; have hcz17_3 : w16.cell? ⟨gb274, 3, none⟩ = some (.bool a0_3) := (blk_cell BK274.out 3).trans rfl; have hfz17_0 := blk_frozen BK274.out 0; have hfz17_1 := blk_frozen BK274.out 1; have hfz17_2 := blk_frozen BK274.out 2; have hfz17_3 := blk_frozen BK274.out 3) | ((with_reducible refine gate_callee (f := 33) rfl ?_); refine goesL_ (some 27) rfl rfl Tryd.func33 (by kernel_rfl) rfl #[.int .u64 (IntKind.u64.wrap (a0_1))] rfl (by (try simp only [List.map_toArray, List.map_cons, List.map_nil]); first | done | rfl | (simp only [List.length_drop, List.length_take]; rfl)) ?_; (with_reducible refine (refrainref1_digits.calls k (IntKind.u64.wrap (a0_1)) t277 _ A13.out).mono ?_); rintro e w18 ⟨rfl, hb⟩; refine ⟨_, rfl, ?_⟩; have n0_ := Aside0.mk (blk_below (g := gb274) (o := .cells #[.int .i64 a0_0, .int .i64 a0_1, .string a0_2, .bool a0_3] 26 (0, 0)) (by (with_reducible repeat (first | refine blk_drewN ?_ _ | refine blk_drew ?_ | refine blk_alloc ?_ _)); exact BK274.out) hb); have n1_ := Aside0.mk (below_step (by repeat (first | (with_reducible first | exact HB.out | apply below_alloc | apply pw_below_drewN | apply below_drew1 | refine below_set ?_ GE274.out) | exact HB.out)) hb); clear BK274; clear HB; have BK274 := n0_; have HB := n1_; clear n0_ n1_; (try clear hb); (try clear hb2); (try clear hk); (try clear hi)))
        go_ret2
        exact ⟨by first | rfl | (simp [errW_none, errW_some] <;> rfl) | (simp [*, errW_none, errW_some] <;> rfl), by repeat (first | (with_reducible first | exact HB.out | apply below_alloc | apply pw_below_drewN | apply below_drew1 | refine below_set ?_ GE274.out) | exact HB.out)⟩
    · rw [if_neg c4] at H
      have c4b0 : (a0_0 == 1) = false := beq_eq_false_iff_ne.mpr c4
      have c4b1 : (a0_0 != 1) = true := bne_iff_ne.mpr c4
      by_cases c19 : a0_0 = 2
      · rw [if_pos c19] at H
        have c19b0 : (a0_0 == 2) = true := beq_iff_eq.mpr c19
        have c19b1 : (a0_0 != 2) = false := bne_eq_false_iff_eq.mpr c19
        clear c19
        replace H := Option.bind_eq_some_iff.mp H
        obtain ⟨t278, A200, H⟩ := H
        replace H : (some (t278, 0)) = some (r1, r2) := H
        have A20 := Aside0.mk A200
        clear A200
        simp only [Option.some.injEq, Prod.mk.injEq] at H
        obtain ⟨rfl, rfl⟩ := H
        go_enter Tryd.func14, Tryd.ntmps14
        go_wp2_with (first | ((with_reducible refine gate_dst (N := 1) rfl ?_); refine box_event ?hg (N := 1) ?hd (cs := #[.int .i64 a0_0, .int .i64 a0_1, .string a0_2, .bool a0_3]) (t := 26) ?hr ?_; (case hd => rfl); (case hg => rfl); (case hr => first | (go_simp; done) | (go_simp; rfl)); intro gb274 hg w21 hbox hb; have n0_ := Aside0.mk (below_step (by repeat (first | (with_reducible first | exact HB.out | apply below_alloc | apply pw_below_drewN | apply below_drew1) | exact HB.out)) hb); have n1_ := Aside0.mk (hbox); have n2_ := Aside0.mk ((by rw [hg]; exact (below_size (by repeat (first | (with_reducible first | exact HB.out | apply below_alloc | apply pw_below_drewN | apply below_drew1) | exact HB.out))) : w.heap.size ≤ gb274)); have n3_ := Aside0.mk ((by rw [hg]; exact (below_size (by repeat (first | (with_reducible first | exact HB.out | apply below_alloc | apply pw_below_drewN | apply below_drew1) | exact HB.out))) : w.heap.size ≤ gb274)); clear HB; have HB := n0_; have BK274 := n1_; have GW274 := n2_; have GE274 := n3_; clear n0_ n1_ n2_ n3_; clear hb hbox hg; have hcz22_0 : w21.cell? ⟨gb274, 0, none⟩ = some (.int .i64 a0_0) := (blk_cell BK274.out 0).trans rfl; have hcz22_1 : w21.cell? ⟨gb274, 1, none⟩ = some (.int .i64 a0_1) := (blk_cell BK274.out 1).trans rfl; have hcz22_2 : w21.cell? ⟨gb274, 2, none⟩ = some (.string a0_2) := (blk_cell BK274.out 2).trans rfl; have hcz22_3 : w21.cell? ⟨gb274, 3, none⟩ = some (.bool a0_3) := (blk_cell BK274.out 3).trans rfl; have hfz22_0 := blk_frozen BK274.out 0; have hfz22_1 := blk_frozen BK274.out 1; have hfz22_2 := blk_frozen BK274.out 2; have hfz22_3 := blk_frozen BK274.out 3) | ((with_reducible refine gate_callee (f := 12) rfl ?_); refine goesL_ (some 6) rfl rfl Tryd.func12 (by kernel_rfl) rfl #[.agg #[.int .i64 a0_0, .int .i64 a0_1, .string a0_2, .bool a0_3]] rfl (by (try simp only [List.map_toArray, List.map_cons, List.map_nil]); first | done | rfl | (simp only [List.length_drop, List.length_take]; rfl)) ?_; (with_reducible refine (refrainref1_Valid.calls a0_0 a0_1 a0_2 a0_3 true _ A2.out).mono ?_); rintro e w23 ⟨rfl, hb⟩; refine ⟨_, rfl, ?_⟩; have n0_ := Aside0.mk (blk_below (g := gb274) (o := .cells #[.int .i64 a0_0, .int .i64 a0_1, .string a0_2, .bool a0_3] 26 (0, 0)) (by (with_reducible repeat (first | refine blk_drewN ?_ _ | refine blk_drew ?_ | refine blk_alloc ?_ _)); exact BK274.out) hb); have n1_ := Aside0.mk (below_step (by repeat (first | (with_reducible first | exact HB.out | apply below_alloc | apply pw_below_drewN | apply below_drew1 | refine below_set ?_ GE274.out) | exact HB.out)) hb); clear BK274; clear HB; have BK274 := n0_; have HB := n1_; clear n0_ n1_; (try clear hb); (try clear hb2); (try clear hk); (try clear hi); have hcz24_0 : w23.cell? ⟨gb274, 0, none⟩ = some (.int .i64 a0_0) := (blk_cell BK274.out 0).trans rfl; have hcz24_1 : w23.cell? ⟨gb274, 1, none⟩ = some (.int .i64 a0_1) := (blk_cell BK274.out 1).trans rfl; have hcz24_2 : w23.cell? ⟨gb274, 2, none⟩ = some (.string a0_2) := (blk_cell BK274.out 2).trans rfl; have hcz24_3 : w23.cell? ⟨gb274, 3, none⟩ = some (.bool a0_3) := (blk_cell BK274.out 3).trans rfl; have hfz24_0 := blk_frozen BK274.out 0; have hfz24_1 := blk_frozen BK274.out 1; have hfz24_2 := blk_frozen BK274.out 2; have hfz24_3 := blk_frozen BK274.out 3) | ((with_reducible refine gate_callee (f := 34) rfl ?_); refine goesL_ (some 32) rfl rfl Tryd.func34 (by kernel_rfl) rfl #[.string a0_2] rfl (by (try simp only [List.map_toArray, List.map_cons, List.map_nil]); first | done | rfl | (simp only [List.length_drop, List.length_take]; rfl)) ?_; (with_reducible refine (refrainref1_quoted.calls k a0_2 t278 _ A20.out).mono ?_); rintro e w25 ⟨rfl, hb⟩; refine ⟨_, rfl, ?_⟩; have n0_ := Aside0.mk (blk_below (g := gb274) (o := .cells #[.int .i64 a0_0, .int .i64 a0_1, .string a0_2, .bool a0_3] 26 (0, 0)) (by (with_reducible repeat (first | refine blk_drewN ?_ _ | refine blk_drew ?_ | refine blk_alloc ?_ _)); exact BK274.out) hb); have n1_ := Aside0.mk (below_step (by repeat (first | (with_reducible first | exact HB.out | apply below_alloc | apply pw_below_drewN | apply below_drew1 | refine below_set ?_ GE274.out) | exact HB.out)) hb); clear BK274; clear HB; have BK274 := n0_; have HB := n1_; clear n0_ n1_; (try clear hb); (try clear hb2); (try clear hk); (try clear hi)))
        go_ret2
        exact ⟨by first | rfl | (simp [errW_none, errW_some] <;> rfl) | (simp [*, errW_none, errW_some] <;> rfl), by repeat (first | (with_reducible first | exact HB.out | apply below_alloc | apply pw_below_drewN | apply below_drew1 | refine below_set ?_ GE274.out) | exact HB.out)⟩
      · rw [if_neg c19] at H
        have c19b0 : (a0_0 == 2) = false := beq_eq_false_iff_ne.mpr c19
        have c19b1 : (a0_0 != 2) = true := bne_iff_ne.mpr c19
        by_cases c26 : a0_3 = true
        · subst c26
          have H1 : (some ((⟨#[84, 82, 85, 69]⟩ : ByteArray), 0)) = some (r1, r2) := by rw [if_pos rfl] at H; exact H
          clear H
          have H := H1
          clear H1
          simp only [Option.some.injEq, Prod.mk.injEq] at H
          obtain ⟨rfl, rfl⟩ := H
          go_enter Tryd.func14, Tryd.ntmps14
          go_wp2_with (first | ((with_reducible refine gate_dst (N := 1) rfl ?_); refine box_event ?hg (N := 1) ?hd (cs := #[.int .i64 a0_0, .int .i64 a0_1, .string a0_2, .bool true]) (t := 26) ?hr ?_; (case hd => rfl); (case hg => rfl); (case hr => first | (go_simp; done) | (go_simp; rfl)); intro gb274 hg w27 hbox hb; have n0_ := Aside0.mk (below_step (by repeat (first | (with_reducible first | exact HB.out | apply below_alloc | apply pw_below_drewN | apply below_drew1) | exact HB.out)) hb); have n1_ := Aside0.mk (hbox); have n2_ := Aside0.mk ((by rw [hg]; exact (below_size (by repeat (first | (with_reducible first | exact HB.out | apply below_alloc | apply pw_below_drewN | apply below_drew1) | exact HB.out))) : w.heap.size ≤ gb274)); have n3_ := Aside0.mk ((by rw [hg]; exact (below_size (by repeat (first | (with_reducible first | exact HB.out | apply below_alloc | apply pw_below_drewN | apply below_drew1) | exact HB.out))) : w.heap.size ≤ gb274)); clear HB; have HB := n0_; have BK274 := n1_; have GW274 := n2_; have GE274 := n3_; clear n0_ n1_ n2_ n3_; clear hb hbox hg; have hcz28_0 : w27.cell? ⟨gb274, 0, none⟩ = some (.int .i64 a0_0) := (blk_cell BK274.out 0).trans rfl; have hcz28_1 : w27.cell? ⟨gb274, 1, none⟩ = some (.int .i64 a0_1) := (blk_cell BK274.out 1).trans rfl; have hcz28_2 : w27.cell? ⟨gb274, 2, none⟩ = some (.string a0_2) := (blk_cell BK274.out 2).trans rfl; have hcz28_3 : w27.cell? ⟨gb274, 3, none⟩ = some (.bool true) := (blk_cell BK274.out 3).trans rfl; have hfz28_0 := blk_frozen BK274.out 0; have hfz28_1 := blk_frozen BK274.out 1; have hfz28_2 := blk_frozen BK274.out 2; have hfz28_3 := blk_frozen BK274.out 3) | ((with_reducible refine gate_callee (f := 12) rfl ?_); refine goesL_ (some 6) rfl rfl Tryd.func12 (by kernel_rfl) rfl #[.agg #[.int .i64 a0_0, .int .i64 a0_1, .string a0_2, .bool true]] rfl (by (try simp only [List.map_toArray, List.map_cons, List.map_nil]); first | done | rfl | (simp only [List.length_drop, List.length_take]; rfl)) ?_; (with_reducible refine (refrainref1_Valid.calls a0_0 a0_1 a0_2 true true _ A2.out).mono ?_); rintro e w29 ⟨rfl, hb⟩; refine ⟨_, rfl, ?_⟩; have n0_ := Aside0.mk (blk_below (g := gb274) (o := .cells #[.int .i64 a0_0, .int .i64 a0_1, .string a0_2, .bool true] 26 (0, 0)) (by (with_reducible repeat (first | refine blk_drewN ?_ _ | refine blk_drew ?_ | refine blk_alloc ?_ _)); exact BK274.out) hb); have n1_ := Aside0.mk (below_step (by repeat (first | (with_reducible first | exact HB.out | apply below_alloc | apply pw_below_drewN | apply below_drew1 | refine below_set ?_ GE274.out) | exact HB.out)) hb); clear BK274; clear HB; have BK274 := n0_; have HB := n1_; clear n0_ n1_; (try clear hb); (try clear hb2); (try clear hk); (try clear hi); have hcz30_0 : w29.cell? ⟨gb274, 0, none⟩ = some (.int .i64 a0_0) := (blk_cell BK274.out 0).trans rfl; have hcz30_1 : w29.cell? ⟨gb274, 1, none⟩ = some (.int .i64 a0_1) := (blk_cell BK274.out 1).trans rfl; have hcz30_2 : w29.cell? ⟨gb274, 2, none⟩ = some (.string a0_2) := (blk_cell BK274.out 2).trans rfl; have hcz30_3 : w29.cell? ⟨gb274, 3, none⟩ = some (.bool true) := (blk_cell BK274.out 3).trans rfl; have hfz30_0 := blk_frozen BK274.out 0; have hfz30_1 := blk_frozen BK274.out 1; have hfz30_2 := blk_frozen BK274.out 2; have hfz30_3 := blk_frozen BK274.out 3))
          go_ret2
          exact ⟨by first | rfl | (simp [errW_none, errW_some] <;> rfl) | (simp [*, errW_none, errW_some] <;> rfl), by repeat (first | (with_reducible first | exact HB.out | apply below_alloc | apply pw_below_drewN | apply below_drew1 | refine below_set ?_ GE274.out) | exact HB.out)⟩
        · replace c26 := Bool.eq_false_iff.mpr c26
          subst c26
          have H1 : (some ((⟨#[70, 65, 76, 83, 69]⟩ : ByteArray), 0)) = some (r1, r2) := by rw [if_neg (show ¬ (false = true) by decide)] at H; exact H
          clear H
          have H := H1
          clear H1
          simp only [Option.some.injEq, Prod.mk.injEq] at H
          obtain ⟨rfl, rfl⟩ := H
          go_enter Tryd.func14, Tryd.ntmps14
          go_wp2_with (first | ((with_reducible refine gate_dst (N := 1) rfl ?_); refine box_event ?hg (N := 1) ?hd (cs := #[.int .i64 a0_0, .int .i64 a0_1, .string a0_2, .bool false]) (t := 26) ?hr ?_; (case hd => rfl); (case hg => rfl); (case hr => first | (go_simp; done) | (go_simp; rfl)); intro gb274 hg w31 hbox hb; have n0_ := Aside0.mk (below_step (by repeat (first | (with_reducible first | exact HB.out | apply below_alloc | apply pw_below_drewN | apply below_drew1) | exact HB.out)) hb); have n1_ := Aside0.mk (hbox); have n2_ := Aside0.mk ((by rw [hg]; exact (below_size (by repeat (first | (with_reducible first | exact HB.out | apply below_alloc | apply pw_below_drewN | apply below_drew1) | exact HB.out))) : w.heap.size ≤ gb274)); have n3_ := Aside0.mk ((by rw [hg]; exact (below_size (by repeat (first | (with_reducible first | exact HB.out | apply below_alloc | apply pw_below_drewN | apply below_drew1) | exact HB.out))) : w.heap.size ≤ gb274)); clear HB; have HB := n0_; have BK274 := n1_; have GW274 := n2_; have GE274 := n3_; clear n0_ n1_ n2_ n3_; clear hb hbox hg; have hcz32_0 : w31.cell? ⟨gb274, 0, none⟩ = some (.int .i64 a0_0) := (blk_cell BK274.out 0).trans rfl; have hcz32_1 : w31.cell? ⟨gb274, 1, none⟩ = some (.int .i64 a0_1) := (blk_cell BK274.out 1).trans rfl; have hcz32_2 : w31.cell? ⟨gb274, 2, none⟩ = some (.string a0_2) := (blk_cell BK274.out 2).trans rfl; have hcz32_3 : w31.cell? ⟨gb274, 3, none⟩ = some (.bool false) := (blk_cell BK274.out 3).trans rfl; have hfz32_0 := blk_frozen BK274.out 0; have hfz32_1 := blk_frozen BK274.out 1; have hfz32_2 := blk_frozen BK274.out 2; have hfz32_3 := blk_frozen BK274.out 3) | ((with_reducible refine gate_callee (f := 12) rfl ?_); refine goesL_ (some 6) rfl rfl Tryd.func12 (by kernel_rfl) rfl #[.agg #[.int .i64 a0_0, .int .i64 a0_1, .string a0_2, .bool false]] rfl (by (try simp only [List.map_toArray, List.map_cons, List.map_nil]); first | done | rfl | (simp only [List.length_drop, List.length_take]; rfl)) ?_; (with_reducible refine (refrainref1_Valid.calls a0_0 a0_1 a0_2 false true _ A2.out).mono ?_); rintro e w33 ⟨rfl, hb⟩; refine ⟨_, rfl, ?_⟩; have n0_ := Aside0.mk (blk_below (g := gb274) (o := .cells #[.int .i64 a0_0, .int .i64 a0_1, .string a0_2, .bool false] 26 (0, 0)) (by (with_reducible repeat (first | refine blk_drewN ?_ _ | refine blk_drew ?_ | refine blk_alloc ?_ _)); exact BK274.out) hb); have n1_ := Aside0.mk (below_step (by repeat (first | (with_reducible first | exact HB.out | apply below_alloc | apply pw_below_drewN | apply below_drew1 | refine below_set ?_ GE274.out) | exact HB.out)) hb); clear BK274; clear HB; have BK274 := n0_; have HB := n1_; clear n0_ n1_; (try clear hb); (try clear hb2); (try clear hk); (try clear hi); have hcz34_0 : w33.cell? ⟨gb274, 0, none⟩ = some (.int .i64 a0_0) := (blk_cell BK274.out 0).trans rfl; have hcz34_1 : w33.cell? ⟨gb274, 1, none⟩ = some (.int .i64 a0_1) := (blk_cell BK274.out 1).trans rfl; have hcz34_2 : w33.cell? ⟨gb274, 2, none⟩ = some (.string a0_2) := (blk_cell BK274.out 2).trans rfl; have hcz34_3 : w33.cell? ⟨gb274, 3, none⟩ = some (.bool false) := (blk_cell BK274.out 3).trans rfl; have hfz34_0 := blk_frozen BK274.out 0; have hfz34_1 := blk_frozen BK274.out 1; have hfz34_2 := blk_frozen BK274.out 2; have hfz34_3 := blk_frozen BK274.out 3))
          go_ret2
          exact ⟨by first | rfl | (simp [errW_none, errW_some] <;> rfl) | (simp [*, errW_none, errW_some] <;> rfl), by repeat (first | (with_reducible first | exact HB.out | apply below_alloc | apply pw_below_drewN | apply below_drew1 | refine below_set ?_ GE274.out) | exact HB.out)⟩
  · replace c3 := Bool.eq_false_iff.mpr c3
    subst c3
    have H1 : (some ((⟨#[]⟩ : ByteArray), 12)) = some (r1, r2) := by rw [if_neg (show ¬ (false = true) by decide)] at H; exact H
    clear H
    have H := H1
    clear H1
    simp only [Option.some.injEq, Prod.mk.injEq] at H
    obtain ⟨rfl, rfl⟩ := H
    go_enter Tryd.func14, Tryd.ntmps14
    go_wp2_with (first | ((with_reducible refine gate_dst (N := 1) rfl ?_); refine box_event ?hg (N := 1) ?hd (cs := #[.int .i64 a0_0, .int .i64 a0_1, .string a0_2, .bool a0_3]) (t := 26) ?hr ?_; (case hd => rfl); (case hg => rfl); (case hr => first | (go_simp; done) | (go_simp; rfl)); intro gb274 hg w35 hbox hb; have n0_ := Aside0.mk (below_step (by repeat (first | (with_reducible first | exact HB.out | apply below_alloc | apply pw_below_drewN | apply below_drew1) | exact HB.out)) hb); have n1_ := Aside0.mk (hbox); have n2_ := Aside0.mk ((by rw [hg]; exact (below_size (by repeat (first | (with_reducible first | exact HB.out | apply below_alloc | apply pw_below_drewN | apply below_drew1) | exact HB.out))) : w.heap.size ≤ gb274)); have n3_ := Aside0.mk ((by rw [hg]; exact (below_size (by repeat (first | (with_reducible first | exact HB.out | apply below_alloc | apply pw_below_drewN | apply below_drew1) | exact HB.out))) : w.heap.size ≤ gb274)); clear HB; have HB := n0_; have BK274 := n1_; have GW274 := n2_; have GE274 := n3_; clear n0_ n1_ n2_ n3_; clear hb hbox hg; have hcz36_0 : w35.cell? ⟨gb274, 0, none⟩ = some (.int .i64 a0_0) := (blk_cell BK274.out 0).trans rfl; have hcz36_1 : w35.cell? ⟨gb274, 1, none⟩ = some (.int .i64 a0_1) := (blk_cell BK274.out 1).trans rfl; have hcz36_2 : w35.cell? ⟨gb274, 2, none⟩ = some (.string a0_2) := (blk_cell BK274.out 2).trans rfl; have hcz36_3 : w35.cell? ⟨gb274, 3, none⟩ = some (.bool a0_3) := (blk_cell BK274.out 3).trans rfl; have hfz36_0 := blk_frozen BK274.out 0; have hfz36_1 := blk_frozen BK274.out 1; have hfz36_2 := blk_frozen BK274.out 2; have hfz36_3 := blk_frozen BK274.out 3) | ((with_reducible refine gate_callee (f := 12) rfl ?_); refine goesL_ (some 6) rfl rfl Tryd.func12 (by kernel_rfl) rfl #[.agg #[.int .i64 a0_0, .int .i64 a0_1, .string a0_2, .bool a0_3]] rfl (by (try simp only [List.map_toArray, List.map_cons, List.map_nil]); first | done | rfl | (simp only [List.length_drop, List.length_take]; rfl)) ?_; (with_reducible refine (refrainref1_Valid.calls a0_0 a0_1 a0_2 a0_3 false _ A2.out).mono ?_); rintro e w37 ⟨rfl, hb⟩; refine ⟨_, rfl, ?_⟩; have n0_ := Aside0.mk (blk_below (g := gb274) (o := .cells #[.int .i64 a0_0, .int .i64 a0_1, .string a0_2, .bool a0_3] 26 (0, 0)) (by (with_reducible repeat (first | refine blk_drewN ?_ _ | refine blk_drew ?_ | refine blk_alloc ?_ _)); exact BK274.out) hb); have n1_ := Aside0.mk (below_step (by repeat (first | (with_reducible first | exact HB.out | apply below_alloc | apply pw_below_drewN | apply below_drew1 | refine below_set ?_ GE274.out) | exact HB.out)) hb); clear BK274; clear HB; have BK274 := n0_; have HB := n1_; clear n0_ n1_; (try clear hb); (try clear hb2); (try clear hk); (try clear hi)))
    go_ret2
    exact ⟨by first | rfl | (simp [errW_none, errW_some] <;> rfl) | (simp [*, errW_none, errW_some] <;> rfl), by repeat (first | (with_reducible first | exact HB.out | apply below_alloc | apply pw_below_drewN | apply below_drew1 | refine below_set ?_ GE274.out) | exact HB.out)⟩

end Go.Proofs.YthhpeeckiggpaaaDoor.Pr

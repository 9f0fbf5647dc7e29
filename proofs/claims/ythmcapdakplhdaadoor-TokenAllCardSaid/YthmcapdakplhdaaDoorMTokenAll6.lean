/-
Part 6 of the proof of the law TokenAll: texts Prx30, Prx31, ExtHn3, PrxTA, OpnTokenAll, PuR1, PuR2, PuR3, PuR5, PuR4.
-/
import Derived.Test.YthmcapdakplhdaaDoorMTokenAll0
import Derived.Test.YthmcapdakplhdaaDoorMTokenAll2
import Derived.Test.YthmcapdakplhdaaDoorMTokenAll3
import Derived.Test.YthmcapdakplhdaaDoorMTokenAll4
import Derived.Test.YthmcapdakplhdaaDoorMTokenAll5
/-! ## text Prx30 -/
section
namespace Go.Proofs.YthmcapdakplhdaaDoor.Pr
open Go.RowKit Go.Proofs.YthmcapdakplhdaaDoorW.PrintWords Go.Proofs.YthmcapdakplhdaaDoorW.PrintLast Go.Proofs.YthmcapdakplhdaaDoorW.PrintMore
attribute [local go_sem] max2_int min2_int max_two min_two max_three min_three max_four min_four   -- for this text's walks alone
attribute [local go_sem high] Go.Proofs.YthmcapdakplhdaaDoor.isSome_setCell
set_option maxRecDepth 100000
set_option linter.unusedVariables false
set_option linter.unusedSimpArgs false

/-! ### refrainref5_quoted: function 70 -/
mutual
def refrainref5_quoted.l0 : Nat → ByteArray → List Int → Int → Option (ByteArray)
  | 0, _, _, _ => none
  | k + 1, x0, x3, x4 => if x4 < (x0.size : Int) then (if 0 ≤ x4 then (if (bt x0 x4) = 34 then (refrainref5_quoted.j1 k x0 x3 x4 (bt x0 x4) true) else (refrainref5_quoted.j1 k x0 x3 x4 (bt x0 x4) ((bt x0 x4) == 92))) else (none)) else (if x3.length < 140737488355328 then (some (strOfNums (x3 ++ [34]))) else (none))
def refrainref5_quoted.j1 : Nat → ByteArray → List Int → Int → Int → Bool → Option (ByteArray)
  | 0, _, _, _, _, _ => none
  | k + 1, x0, x3, x4, x5, x22 => if x22 = true then ((some (([92, x5] : List Int) : List Int)).bind fun y612 => (if x3.length + y612.length < 140737488355328 then (refrainref5_quoted.l0 k x0 (x3 ++ y612) (wrap64 (x4 + 1))) else (none))) else (if x5 = 10 then ((some (([92, 110] : List Int) : List Int)).bind fun y618 => (if x3.length + y618.length < 140737488355328 then (refrainref5_quoted.l0 k x0 (x3 ++ y618) (wrap64 (x4 + 1))) else (none))) else (if x5 = 9 then ((some (([92, 116] : List Int) : List Int)).bind fun y624 => (if x3.length + y624.length < 140737488355328 then (refrainref5_quoted.l0 k x0 (x3 ++ y624) (wrap64 (x4 + 1))) else (none))) else (if x5 < 32 then (if 0 ≤ ((Int.tdiv x5 16) % 256) then (if ((Int.tdiv x5 16) % 256) < 16 then (if 0 ≤ (Int.tmod x5 16) then (if (Int.tmod x5 16) < 16 then ((some (([92, 120, bt (⟨#[48, 49, 50, 51, 52, 53, 54, 55, 56, 57, 97, 98, 99, 100, 101, 102]⟩ : ByteArray) ((Int.tdiv x5 16) % 256), bt (⟨#[48, 49, 50, 51, 52, 53, 54, 55, 56, 57, 97, 98, 99, 100, 101, 102]⟩ : ByteArray) (Int.tmod x5 16)] : List Int) : List Int)).bind fun y630 => (if x3.length + y630.length < 140737488355328 then (refrainref5_quoted.l0 k x0 (x3 ++ y630) (wrap64 (x4 + 1))) else (none))) else (none)) else (none)) else (none)) else (none)) else (if x5 > 126 then (if 0 ≤ ((Int.tdiv x5 16) % 256) then (if ((Int.tdiv x5 16) % 256) < 16 then (if 0 ≤ (Int.tmod x5 16) then (if (Int.tmod x5 16) < 16 then ((some (([92, 120, bt (⟨#[48, 49, 50, 51, 52, 53, 54, 55, 56, 57, 97, 98, 99, 100, 101, 102]⟩ : ByteArray) ((Int.tdiv x5 16) % 256), bt (⟨#[48, 49, 50, 51, 52, 53, 54, 55, 56, 57, 97, 98, 99, 100, 101, 102]⟩ : ByteArray) (Int.tmod x5 16)] : List Int) : List Int)).bind fun y636 => (if x3.length + y636.length < 140737488355328 then (refrainref5_quoted.l0 k x0 (x3 ++ y636) (wrap64 (x4 + 1))) else (none))) else (none)) else (none)) else (none)) else (none)) else (if x3.length < 140737488355328 then (refrainref5_quoted.l0 k x0 (x3 ++ [x5]) (wrap64 (x4 + 1))) else (none))))))
end
def refrainref5_quoted.f (k : Nat) (a0 : ByteArray) : Option (ByteArray) := if ([] : List Int).length < 140737488355328 then (refrainref5_quoted.l0 k a0 (([] : List Int) ++ [34]) 0) else (none)
set_option maxRecDepth 100000 in
theorem refrainref5_quoted.l0_zero : ∀ y0 y1 y2, refrainref5_quoted.l0 0 y0 y1 y2 = none := fun _ _ _ => rfl
set_option maxRecDepth 100000 in
theorem refrainref5_quoted.j1_zero : ∀ y0 y1 y2 y3 y4, refrainref5_quoted.j1 0 y0 y1 y2 y3 y4 = none := fun _ _ _ _ _ => rfl
set_option maxRecDepth 100000 in
theorem refrainref5_quoted.mono_l : ∀ k, (∀ y0 y1 y2, LeO (refrainref5_quoted.l0 k y0 y1 y2) (refrainref5_quoted.l0 (k + 1) y0 y1 y2)) ∧ (∀ y0 y1 y2 y3 y4, LeO (refrainref5_quoted.j1 k y0 y1 y2 y3 y4) (refrainref5_quoted.j1 (k + 1) y0 y1 y2 y3 y4))
  | 0 => ⟨fun _ _ _ r h => by (unfold refrainref5_quoted.l0 at h; cases h), fun _ _ _ _ _ r h => by (unfold refrainref5_quoted.j1 at h; cases h)⟩
  | k + 1 => by
    obtain ⟨ih0, ih1⟩ := refrainref5_quoted.mono_l k
    refine ⟨?_, ?_⟩
    · intro y0 y1 y2
      unfold refrainref5_quoted.l0
      repeat' first
      | (with_reducible exact ih0 _ _ _)
      | (with_reducible exact ih1 _ _ _ _ _)
      | (with_reducible exact LeO.refl _)
      | (with_reducible exact LeO.none _)
      | (with_reducible refine LeO.ite ?_ ?_)
      | (with_reducible refine LeO.bind ?_ (fun _ => ?_))
      | exact ih0 _ _ _
      | exact ih1 _ _ _ _ _
      | exact LeO.none _
      | refine LeO.ite ?_ ?_
      | refine LeO.bind ?_ (fun _ => ?_)
    · intro y0 y1 y2 y3 y4
      unfold refrainref5_quoted.j1
      repeat' first
      | (with_reducible exact ih0 _ _ _)
      | (with_reducible exact ih1 _ _ _ _ _)
      | (with_reducible exact LeO.refl _)
      | (with_reducible exact LeO.none _)
      | (with_reducible refine LeO.ite ?_ ?_)
      | (with_reducible refine LeO.bind ?_ (fun _ => ?_))
      | exact ih0 _ _ _
      | exact ih1 _ _ _ _ _
      | exact LeO.none _
      | refine LeO.ite ?_ ?_
      | refine LeO.bind ?_ (fun _ => ?_)
set_option maxRecDepth 100000 in
theorem refrainref5_quoted.mono : ∀ a0 k, LeO (refrainref5_quoted.f k a0) (refrainref5_quoted.f (k + 1) a0) := by
  intro a0 k
  obtain ⟨ih0, ih1⟩ := refrainref5_quoted.mono_l k
  unfold refrainref5_quoted.f
  repeat' first
      | (with_reducible exact ih0 _ _ _)
      | (with_reducible exact ih1 _ _ _ _ _)
      | (with_reducible exact LeO.refl _)
      | (with_reducible exact LeO.none _)
      | (with_reducible refine LeO.ite ?_ ?_)
      | (with_reducible refine LeO.bind ?_ (fun _ => ?_))
      | exact ih0 _ _ _
      | exact ih1 _ _ _ _ _
      | exact LeO.none _
      | refine LeO.ite ?_ ?_
      | refine LeO.bind ?_ (fun _ => ?_)
def refrainref5_quoted.T15 : Bool × List (List Nat × List Nat) := (true, [([], []), ([], []), ([1], [1]), ([2], [2]), ([], []), ([4], [4]), ([5], [5]), ([3, 6], [3, 6]), ([0, 7], [0, 7]), ([8, 8, 0, 1, 2, 3, 4, 5, 6, 7, 8], [0, 8])])
def refrainref5_quoted.B15 : List Nat := [0, 0, 2, 6, 0, 16, 48, 126, 255, 511]
theorem refrainref5_quoted.tab15 : rtab .any (opsOf Tryd.f70 15) = refrainref5_quoted.T15 := by kernel_rfl
theorem refrainref5_quoted.bits15 : waitsOk refrainref5_quoted.T15.2 refrainref5_quoted.B15 = true := by kernel_rfl
set_option maxHeartbeats 8000000 in
set_option maxRecDepth 100000 in
theorem refrainref5_quoted.calls (k : Nat) (a0 : ByteArray) (r : ByteArray) (w : World) (h : refrainref5_quoted.f k a0 = some r) :
    Calls Tryd.prog 70 #[.string a0] w fun e w' => e = .returned (.string r) ∧ Below w.heap.size w w' := by
  have HB := Aside0.mk (Below.refl w.heap.size w)
  have H : (if ([] : List Int).length < 140737488355328 then (refrainref5_quoted.l0 k a0 (([] : List Int) ++ [34]) 0) else (none)) = some r := h
  clear h
  by_cases c2 : ([] : List Int).length < 140737488355328
  · rw [if_pos c2] at H
    have LMc2 := Aside0.mk c2
    clear c2
    obtain ⟨y606, hy606⟩ : ∃ y_ : List Int, y_ = (([] : List Int) ++ [34]) := ⟨_, rfl⟩
    replace H : (refrainref5_quoted.l0 k a0 y606 0) = some r := by first | (rw [hy606]; with_reducible exact H) | (have H2_ := (Option.bind_some _ _).symm.trans H; rw [hy606]; with_reducible exact H2_) | (have H2_ := (Option.bind_some _ _).symm.trans H; with_reducible exact H2_) | with_reducible exact H | (rw [hy606]; exact H) | exact H
    have Ny606 := Aside0.mk hy606
    clear hy606
    have H' := Aside0.mk H
    clear H
    go_enter Tryd.func70, Tryd.ntmps70
    go_wp2_with (first | ((with_reducible refine gate_builtin (b := .append) (xs := #[.tmp 6, .tmp 7]) rfl ?_); at_builtin; refine Kd.R_append (Kd.int .u8) (w0 := w) w.heap.size rfl (.tmp 6) (.tmp 7) 39 5 (.int .u8 0) 1 rfl Tryd.underlying39 info5 rfl (by decide) (by omega) (.slice none 0 0) ([] : List Int) 34 [.int .u8 34] (fun _ => True) (fun _ => False) rfl rfl ?aP (fun _ hk => hk.elim) ?aF ?aO ?aB ?aS ?aL ?_; (case aP => exact rfl); (case aB => exact (hbT HB.out)); (case aF => exact (fun _ _ => trivial)); (case aO => exact ((Kd.R_nil _ _ _ _ (fun _ => True)))); (case aS => exact (below_size (hbT HB.out))); (case aL => have := LMc2.out; omega); intro v607 w3 ho hb hg hat; rw [← Ny606.out] at ho; have HO608 := Aside0.mk ho; replace HB := Aside0.mk hb; clear ho hb hg hat))
    go_loopg [3, 4] k (fun kq v3 v4 w' => ∃ (x3_1 : List Int) (x4_1 : Int), v4 = .int .i64 x4_1 ∧ Aside0 (refrainref5_quoted.l0 kq a0 x3_1 x4_1 = some r) ∧ Aside0 (kq ≤ k) ∧ Aside0 (Kd.R (Kd.int .u8) 5 w' w.heap.size (fun _ => True) v3 x3_1) ∧ Aside0 (Below w.heap.size w w'))
    case atStart => exact ⟨(y606), (0), (by first | rfl | (simp; done) | (simp [*]; done) | (simp; unfold wrap64; omega) | (congr 1; (try rw [Bool.eq_iff_iff]); simp [List.isEmpty_iff]; done)), H', ⟨Nat.le_refl _⟩, ⟨by (with_reducible repeat (first | apply Kd.R_alloc | apply Kd.R_drewN | apply Kd.R_drew)); exact HO608.out⟩, ⟨hbT HB.out⟩⟩
    case round =>
      clear H'
      try clear c2
      try clear p2
      obtain ⟨x3_1, x4_1, rfl, HA, HK1, HO_3, HB⟩ := hrel
      cases gk with
      | zero => (have HA2 := HA.out; clear HA; revert HA2; rw [refrainref5_quoted.l0_zero]; intro h_; cases h_)
      | succ k1 =>
        have H := HA.out
        clear HA
        simp only [refrainref5_quoted.l0] at H
        by_cases c4 : x4_1 < (a0.size : Int)
        · rw [if_pos c4] at H
          have c4b0 : decide (x4_1 < (a0.size : Int)) = true := decide_eq_true c4
          clear c4
          by_cases c5 : 0 ≤ x4_1
          · rw [if_pos c5] at H
            have c5b0 : decide (0 ≤ x4_1) = true := decide_eq_true c5
            clear c5
            have HC7 := Aside0.mk H
            clear H
            have p6 : 0 ≤ (x4_1 : Int) := of_decide_eq_true (by first | (with_reducible assumption) | assumption)
            have q6 : x4_1 < (a0.size : Int) := of_decide_eq_true (by first | (with_reducible assumption) | assumption)
            have hx6 := bt_at a0 x4_1
            replace p6 := eq_true p6
            replace q6 := eq_true q6
            go_upto_region 8 with (fail)
            go_cut [22] (fun v22 wc => ∃ (kq : Nat) (x22_6 : Bool), v22 = .bool x22_6 ∧ Aside0 (refrainref5_quoted.j1 kq a0 x3_1 x4_1 (bt a0 x4_1) x22_6 = some r) ∧ Aside0 (kq ≤ k1) ∧ Aside0 (Kd.R (Kd.int .u8) 5 wc w.heap.size (fun _ => True) u3 x3_1) ∧ Aside0 (Below w.heap.size w wc))
            case first =>
              have H := HC7.out
              clear HC7
              by_cases c8 : (bt a0 x4_1) = 34
              · rw [if_pos c8] at H
                have c8b0 : ((bt a0 x4_1) == 34) = true := beq_iff_eq.mpr c8
                have c8b1 : ((bt a0 x4_1) != 34) = false := bne_eq_false_iff_eq.mpr c8
                clear c8
                (first | rw [c8b0] | (simp only [i64_w, i32_w, IntKind.wrap_u8, IntKind.wrap_u16, IntKind.wrap_u32]; rw [c8b0]) | skip)
                have H' := Aside0.mk H
                clear H
                go_wp2
                go_meet
                case rel => exact ⟨_, (true), (by first | rfl | (simp; done) | (simp [*]; done) | (simp; unfold wrap64; omega) | (congr 1; (try rw [Bool.eq_iff_iff]); simp [List.isEmpty_iff]; done)), H', ⟨by have := HK1.out; first | omega | exact Nat.le_refl _⟩, ⟨by (with_reducible repeat (first | apply Kd.R_alloc | apply Kd.R_drewN | apply Kd.R_drew)); exact HO_3.out⟩, ⟨hbT HB.out⟩⟩
              · rw [if_neg c8] at H
                have c8b0 : ((bt a0 x4_1) == 34) = false := beq_eq_false_iff_ne.mpr c8
                have c8b1 : ((bt a0 x4_1) != 34) = true := bne_iff_ne.mpr c8
                (first | rw [c8b0] | (simp only [i64_w, i32_w, IntKind.wrap_u8, IntKind.wrap_u16, IntKind.wrap_u32]; rw [c8b0]) | skip)
                have H' := Aside0.mk H
                clear H
                go_wp2
                go_meet
                case rel => exact ⟨_, (((bt a0 x4_1) == 92)), (by first | rfl | (simp; done) | (simp [*]; done) | (simp; unfold wrap64; omega) | (congr 1; (try rw [Bool.eq_iff_iff]); simp [List.isEmpty_iff]; done)), H', ⟨by have := HK1.out; first | omega | exact Nat.le_refl _⟩, ⟨by (with_reducible repeat (first | apply Kd.R_alloc | apply Kd.R_drewN | apply Kd.R_drew)); exact HO_3.out⟩, ⟨hbT HB.out⟩⟩
            case rest =>
              clear HC7
              try clear c2
              try clear p2
              try clear c4
              try clear c4b0
              try clear c5
              try clear c5b0
              try clear p6
              try clear q6
              try clear hx6
              try clear c7
              try clear c8
              try clear c8b0
              try clear c8b1
              try clear p2
              try clear p6
              try clear q6
              obtain ⟨kq, x22_6, rfl, HA, HJ6, HO_3, HB⟩ := hcut
              cases kq with
              | zero => (have HA2 := HA.out; clear HA; revert HA2; rw [refrainref5_quoted.j1_zero]; intro h_; cases h_)
              | succ kj6 =>
                have H := HA.out
                clear HA
                simp only [refrainref5_quoted.j1] at H
                by_cases c9 : x22_6 = true
                · subst c9
                  have H1 : ((some (([92, (bt a0 x4_1)] : List Int) : List Int)).bind fun y612 => (if x3_1.length + y612.length < 140737488355328 then (refrainref5_quoted.l0 kj6 a0 (x3_1 ++ y612) (wrap64 (x4_1 + 1))) else (none))) = some r := by rw [if_pos rfl] at H; exact H
                  clear H
                  have H := H1
                  clear H1
                  obtain ⟨y612, hy612⟩ : ∃ y_ : List Int, y_ = (([92, (bt a0 x4_1)] : List Int)) := ⟨_, rfl⟩
                  replace H : (if x3_1.length + y612.length < 140737488355328 then (refrainref5_quoted.l0 kj6 a0 (x3_1 ++ y612) (wrap64 (x4_1 + 1))) else (none)) = some r := by first | (rw [hy612]; with_reducible exact H) | (have H2_ := (Option.bind_some _ _).symm.trans H; rw [hy612]; with_reducible exact H2_) | (have H2_ := (Option.bind_some _ _).symm.trans H; with_reducible exact H2_) | with_reducible exact H | (rw [hy612]; exact H) | exact H
                  have Ny612 := Aside0.mk hy612
                  clear hy612
                  by_cases c10 : x3_1.length + y612.length < 140737488355328
                  · rw [if_pos c10] at H
                    have LMc10 := Aside0.mk c10
                    clear c10
                    obtain ⟨y615, hy615⟩ : ∃ y_ : List Int, y_ = (x3_1 ++ y612) := ⟨_, rfl⟩
                    replace H : (refrainref5_quoted.l0 kj6 a0 y615 (wrap64 (x4_1 + 1))) = some r := by first | (rw [hy615]; with_reducible exact H) | (have H2_ := (Option.bind_some _ _).symm.trans H; rw [hy615]; with_reducible exact H2_) | (have H2_ := (Option.bind_some _ _).symm.trans H; with_reducible exact H2_) | with_reducible exact H | (rw [hy615]; exact H) | exact H
                    have Ny615 := Aside0.mk hy615
                    clear hy615
                    have H' := Aside0.mk H
                    clear H
                    go_wp2_with (first | ((with_reducible refine gate_dst (N := 31) rfl ?_); refine Kd.R_lit (Kd.int .u8) _ 5 ?hg (N := 31) ?hd (xs := ([92, (bt a0 x4_1)] : List Int)) (inner := [.int .u8 92, .int .u8 (bt a0 x4_1)]) (ok := fun _ => True) (okp := fun _ => True) ?hr ?hp (fun _ hk => hk) trivial (Below.refl _ _) (Nat.le_refl _) (by simp) ?_; (case hd => rfl); (case hg => rfl); (case hr => first | (go_simp; done) | (go_simp; rfl)); (case hp => exact (Reps.one (show Kd.M (Kd.int .u8) _ _ _ 92 [.int .u8 92] from rfl) (Reps.one (show Kd.M (Kd.int .u8) _ _ _ (bt a0 x4_1) [.int .u8 (bt a0 x4_1)] from rfl) (Reps.none _ _)))); intro v613 w11 ho12 hb hg_ hnew_; clear hg_ hnew_; (first | rw [← Ny612.out] at ho12 | (simp only [Int.reduceToNat] at ho12; rw [← Ny612.out] at ho12)); have HO614 := Aside0.mk (Kd.R_lower (Kd.R_new' ho12 (Kd.R_lt (by (with_reducible repeat (first | apply Kd.R_alloc | apply Kd.R_drewN | apply Kd.R_drew)); exact HO_3.out))) (below_size (hbT HB.out))); replace HO_3 := Aside0.mk (Kd.R_elder' (by (with_reducible repeat (first | apply Kd.R_alloc | apply Kd.R_drewN | apply Kd.R_drew)); exact HO_3.out) (Kd.R_base ho12) hb); replace HB := bsA HB hb; clear hb ho12; obtain ⟨Ao14, co14, eo14⟩ := Kd.R_slice HO614.out; subst eo14) | ((with_reducible refine gate_builtin (b := .append) (xs := #[.tmp 29, .tmp 31]) rfl ?_); at_builtin; refine Kd.R_append_rows (Kd.int .u8) (w0 := w) w.heap.size rfl (.tmp 29) (.tmp 31) 39 5 (.int .u8 0) 1 rfl Tryd.underlying39 info5 rfl (by decide) (by omega) u3 x3_1 y612 _ _ _ (fun k_ => some k_ ≠ (.slice Ao14 y612.length co14 : Value).ownBlock) (fun _ => False) rfl rfl ?aO ?aR (fun _ _ h => h) (fun _ h => h.elim) ?aF ?aB ?aS ?aL ?_; (case aR => repeat (first | exact (Kd.R_reads' HO614.out).2.2 | (with_reducible refine Kd.C_alloc ?_ _) | (with_reducible refine Kd.C_drewN ?_ _) | (with_reducible refine Kd.C_drew ?_))); (case aB => exact (hbT HB.out)); (case aF => exact (fun k_ hk => Kd.fresh' (Kd.R_lt (by (with_reducible repeat (first | apply Kd.R_alloc | apply Kd.R_drewN | apply Kd.R_drew)); exact HO614.out)) k_ hk)); (case aO => exact (by (with_reducible repeat (first | apply Kd.R_alloc | apply Kd.R_drewN | apply Kd.R_drew)); exact Kd.R_mono HO_3.out (fun _ hk => hk.2))); (case aS => exact (below_size (hbT HB.out))); (case aL => have := LMc10.out; omega); intro v616 w13 ho hb hg hat; rw [← Ny615.out] at ho; have n0_ := Aside0.mk (Kd.R_after (ok := (fun _ => True)) (by (with_reducible repeat (first | apply Kd.R_alloc | apply Kd.R_drewN | apply Kd.R_drew)); exact HO614.out) hg hat); have n1_ := Aside0.mk (hb); have n2_ := Aside0.mk (ho); clear HO614; clear HB; clear HO_3; have HO614 := n0_; have HB := n1_; have HO617 := n2_; clear n0_ n1_ n2_; clear ho hb hg hat))
                    go_roundg kj6
                    case measure => have := HK1.out; have := HJ6.out; omega
                    case rel => exact ⟨(y615), (wrap64 (x4_1 + 1)), (by first | rfl | (simp; done) | (simp [*]; done) | (simp; unfold wrap64; omega) | (congr 1; (try rw [Bool.eq_iff_iff]); simp [List.isEmpty_iff]; done)), H', ⟨by have := HK1.out; have := HJ6.out; omega⟩, ⟨by (with_reducible repeat (first | apply Kd.R_alloc | apply Kd.R_drewN | apply Kd.R_drew)); exact Kd.R_mono HO617.out (fun _ hk => trivial)⟩, ⟨hbT HB.out⟩⟩
                  · rw [if_neg c10] at H
                    exact absurd H (by simp)
                · replace c9 := Bool.eq_false_iff.mpr c9
                  subst c9
                  have H1 : (if (bt a0 x4_1) = 10 then ((some (([92, 110] : List Int) : List Int)).bind fun y618 => (if x3_1.length + y618.length < 140737488355328 then (refrainref5_quoted.l0 kj6 a0 (x3_1 ++ y618) (wrap64 (x4_1 + 1))) else (none))) else (if (bt a0 x4_1) = 9 then ((some (([92, 116] : List Int) : List Int)).bind fun y624 => (if x3_1.length + y624.length < 140737488355328 then (refrainref5_quoted.l0 kj6 a0 (x3_1 ++ y624) (wrap64 (x4_1 + 1))) else (none))) else (if (bt a0 x4_1) < 32 then (if 0 ≤ ((Int.tdiv (bt a0 x4_1) 16) % 256) then (if ((Int.tdiv (bt a0 x4_1) 16) % 256) < 16 then (if 0 ≤ (Int.tmod (bt a0 x4_1) 16) then (if (Int.tmod (bt a0 x4_1) 16) < 16 then ((some (([92, 120, bt (⟨#[48, 49, 50, 51, 52, 53, 54, 55, 56, 57, 97, 98, 99, 100, 101, 102]⟩ : ByteArray) ((Int.tdiv (bt a0 x4_1) 16) % 256), bt (⟨#[48, 49, 50, 51, 52, 53, 54, 55, 56, 57, 97, 98, 99, 100, 101, 102]⟩ : ByteArray) (Int.tmod (bt a0 x4_1) 16)] : List Int) : List Int)).bind fun y630 => (if x3_1.length + y630.length < 140737488355328 then (refrainref5_quoted.l0 kj6 a0 (x3_1 ++ y630) (wrap64 (x4_1 + 1))) else (none))) else (none)) else (none)) else (none)) else (none)) else (if (bt a0 x4_1) > 126 then (if 0 ≤ ((Int.tdiv (bt a0 x4_1) 16) % 256) then (if ((Int.tdiv (bt a0 x4_1) 16) % 256) < 16 then (if 0 ≤ (Int.tmod (bt a0 x4_1) 16) then (if (Int.tmod (bt a0 x4_1) 16) < 16 then ((some (([92, 120, bt (⟨#[48, 49, 50, 51, 52, 53, 54, 55, 56, 57, 97, 98, 99, 100, 101, 102]⟩ : ByteArray) ((Int.tdiv (bt a0 x4_1) 16) % 256), bt (⟨#[48, 49, 50, 51, 52, 53, 54, 55, 56, 57, 97, 98, 99, 100, 101, 102]⟩ : ByteArray) (Int.tmod (bt a0 x4_1) 16)] : List Int) : List Int)).bind fun y636 => (if x3_1.length + y636.length < 140737488355328 then (refrainref5_quoted.l0 kj6 a0 (x3_1 ++ y636) (wrap64 (x4_1 + 1))) else (none))) else (none)) else (none)) else (none)) else (none)) else (if x3_1.length < 140737488355328 then (refrainref5_quoted.l0 kj6 a0 (x3_1 ++ [(bt a0 x4_1)]) (wrap64 (x4_1 + 1))) else (none)))))) = some r := by rw [if_neg (show ¬ (false = true) by decide)] at H; exact H
                  clear H
                  have H := H1
                  clear H1
                  by_cases c15 : (bt a0 x4_1) = 10
                  · rw [if_pos c15] at H
                    have c15b0 : ((bt a0 x4_1) == 10) = true := beq_iff_eq.mpr c15
                    have c15b1 : ((bt a0 x4_1) != 10) = false := bne_eq_false_iff_eq.mpr c15
                    clear c15
                    obtain ⟨y618, hy618⟩ : ∃ y_ : List Int, y_ = (([92, 110] : List Int)) := ⟨_, rfl⟩
                    replace H : (if x3_1.length + y618.length < 140737488355328 then (refrainref5_quoted.l0 kj6 a0 (x3_1 ++ y618) (wrap64 (x4_1 + 1))) else (none)) = some r := by first | (rw [hy618]; with_reducible exact H) | (have H2_ := (Option.bind_some _ _).symm.trans H; rw [hy618]; with_reducible exact H2_) | (have H2_ := (Option.bind_some _ _).symm.trans H; with_reducible exact H2_) | with_reducible exact H | (rw [hy618]; exact H) | exact H
                    have Ny618 := Aside0.mk hy618
                    clear hy618
                    by_cases c16 : x3_1.length + y618.length < 140737488355328
                    · rw [if_pos c16] at H
                      have LMc16 := Aside0.mk c16
                      clear c16
                      obtain ⟨y621, hy621⟩ : ∃ y_ : List Int, y_ = (x3_1 ++ y618) := ⟨_, rfl⟩
                      replace H : (refrainref5_quoted.l0 kj6 a0 y621 (wrap64 (x4_1 + 1))) = some r := by first | (rw [hy621]; with_reducible exact H) | (have H2_ := (Option.bind_some _ _).symm.trans H; rw [hy621]; with_reducible exact H2_) | (have H2_ := (Option.bind_some _ _).symm.trans H; with_reducible exact H2_) | with_reducible exact H | (rw [hy621]; exact H) | exact H
                      have Ny621 := Aside0.mk hy621
                      clear hy621
                      have H' := Aside0.mk H
                      clear H
                      go_wp2_with (first | ((with_reducible refine gate_dst (N := 37) rfl ?_); refine Kd.R_lit (Kd.int .u8) _ 5 ?hg (N := 37) ?hd (xs := ([92, 110] : List Int)) (inner := [.int .u8 92, .int .u8 110]) (ok := fun _ => True) (okp := fun _ => True) ?hr ?hp (fun _ hk => hk) trivial (Below.refl _ _) (Nat.le_refl _) (by simp) ?_; (case hd => rfl); (case hg => rfl); (case hr => first | (go_simp; done) | (go_simp; rfl)); (case hp => exact (Reps.one (show Kd.M (Kd.int .u8) _ _ _ 92 [.int .u8 92] from rfl) (Reps.one (show Kd.M (Kd.int .u8) _ _ _ 110 [.int .u8 110] from rfl) (Reps.none _ _)))); intro v619 w17 ho18 hb hg_ hnew_; clear hg_ hnew_; (first | rw [← Ny618.out] at ho18 | (simp only [Int.reduceToNat] at ho18; rw [← Ny618.out] at ho18)); have HO620 := Aside0.mk (Kd.R_lower (Kd.R_new' ho18 (Kd.R_lt (by (with_reducible repeat (first | apply Kd.R_alloc | apply Kd.R_drewN | apply Kd.R_drew)); exact HO_3.out))) (below_size (hbT HB.out))); replace HO_3 := Aside0.mk (Kd.R_elder' (by (with_reducible repeat (first | apply Kd.R_alloc | apply Kd.R_drewN | apply Kd.R_drew)); exact HO_3.out) (Kd.R_base ho18) hb); replace HB := bsA HB hb; clear hb ho18; obtain ⟨Ao20, co20, eo20⟩ := Kd.R_slice HO620.out; subst eo20) | ((with_reducible refine gate_builtin (b := .append) (xs := #[.tmp 36, .tmp 37]) rfl ?_); at_builtin; refine Kd.R_append_rows (Kd.int .u8) (w0 := w) w.heap.size rfl (.tmp 36) (.tmp 37) 39 5 (.int .u8 0) 1 rfl Tryd.underlying39 info5 rfl (by decide) (by omega) u3 x3_1 y618 _ _ _ (fun k_ => some k_ ≠ (.slice Ao20 y618.length co20 : Value).ownBlock) (fun _ => False) rfl rfl ?aO ?aR (fun _ _ h => h) (fun _ h => h.elim) ?aF ?aB ?aS ?aL ?_; (case aR => repeat (first | exact (Kd.R_reads' HO620.out).2.2 | (with_reducible refine Kd.C_alloc ?_ _) | (with_reducible refine Kd.C_drewN ?_ _) | (with_reducible refine Kd.C_drew ?_))); (case aB => exact (hbT HB.out)); (case aF => exact (fun k_ hk => Kd.fresh' (Kd.R_lt (by (with_reducible repeat (first | apply Kd.R_alloc | apply Kd.R_drewN | apply Kd.R_drew)); exact HO620.out)) k_ hk)); (case aO => exact (by (with_reducible repeat (first | apply Kd.R_alloc | apply Kd.R_drewN | apply Kd.R_drew)); exact Kd.R_mono HO_3.out (fun _ hk => hk.2))); (case aS => exact (below_size (hbT HB.out))); (case aL => have := LMc16.out; omega); intro v622 w19 ho hb hg hat; rw [← Ny621.out] at ho; have n0_ := Aside0.mk (Kd.R_after (ok := (fun _ => True)) (by (with_reducible repeat (first | apply Kd.R_alloc | apply Kd.R_drewN | apply Kd.R_drew)); exact HO620.out) hg hat); have n1_ := Aside0.mk (hb); have n2_ := Aside0.mk (ho); clear HO620; clear HB; clear HO_3; have HO620 := n0_; have HB := n1_; have HO623 := n2_; clear n0_ n1_ n2_; clear ho hb hg hat))
                      go_roundg kj6
                      case measure => have := HK1.out; have := HJ6.out; omega
                      case rel => exact ⟨(y621), (wrap64 (x4_1 + 1)), (by first | rfl | (simp; done) | (simp [*]; done) | (simp; unfold wrap64; omega) | (congr 1; (try rw [Bool.eq_iff_iff]); simp [List.isEmpty_iff]; done)), H', ⟨by have := HK1.out; have := HJ6.out; omega⟩, ⟨by (with_reducible repeat (first | apply Kd.R_alloc | apply Kd.R_drewN | apply Kd.R_drew)); exact Kd.R_mono HO623.out (fun _ hk => trivial)⟩, ⟨hbT HB.out⟩⟩
                    · rw [if_neg c16] at H
                      exact absurd H (by simp)
                  · rw [if_neg c15] at H
                    have c15b0 : ((bt a0 x4_1) == 10) = false := beq_eq_false_iff_ne.mpr c15
                    have c15b1 : ((bt a0 x4_1) != 10) = true := bne_iff_ne.mpr c15
                    by_cases c21 : (bt a0 x4_1) = 9
                    · rw [if_pos c21] at H
                      have c21b0 : ((bt a0 x4_1) == 9) = true := beq_iff_eq.mpr c21
                      have c21b1 : ((bt a0 x4_1) != 9) = false := bne_eq_false_iff_eq.mpr c21
                      clear c21
                      obtain ⟨y624, hy624⟩ : ∃ y_ : List Int, y_ = (([92, 116] : List Int)) := ⟨_, rfl⟩
                      replace H : (if x3_1.length + y624.length < 140737488355328 then (refrainref5_quoted.l0 kj6 a0 (x3_1 ++ y624) (wrap64 (x4_1 + 1))) else (none)) = some r := by first | (rw [hy624]; with_reducible exact H) | (have H2_ := (Option.bind_some _ _).symm.trans H; rw [hy624]; with_reducible exact H2_) | (have H2_ := (Option.bind_some _ _).symm.trans H; with_reducible exact H2_) | with_reducible exact H | (rw [hy624]; exact H) | exact H
                      have Ny624 := Aside0.mk hy624
                      clear hy624
                      by_cases c22 : x3_1.length + y624.length < 140737488355328
                      · rw [if_pos c22] at H
                        have LMc22 := Aside0.mk c22
                        clear c22
                        obtain ⟨y627, hy627⟩ : ∃ y_ : List Int, y_ = (x3_1 ++ y624) := ⟨_, rfl⟩
                        replace H : (refrainref5_quoted.l0 kj6 a0 y627 (wrap64 (x4_1 + 1))) = some r := by first | (rw [hy627]; with_reducible exact H) | (have H2_ := (Option.bind_some _ _).symm.trans H; rw [hy627]; with_reducible exact H2_) | (have H2_ := (Option.bind_some _ _).symm.trans H; with_reducible exact H2_) | with_reducible exact H | (rw [hy627]; exact H) | exact H
                        have Ny627 := Aside0.mk hy627
                        clear hy627
                        have H' := Aside0.mk H
                        clear H
                        go_wp2_with (first | ((with_reducible refine gate_dst (N := 43) rfl ?_); refine Kd.R_lit (Kd.int .u8) _ 5 ?hg (N := 43) ?hd (xs := ([92, 116] : List Int)) (inner := [.int .u8 92, .int .u8 116]) (ok := fun _ => True) (okp := fun _ => True) ?hr ?hp (fun _ hk => hk) trivial (Below.refl _ _) (Nat.le_refl _) (by simp) ?_; (case hd => rfl); (case hg => rfl); (case hr => first | (go_simp; done) | (go_simp; rfl)); (case hp => exact (Reps.one (show Kd.M (Kd.int .u8) _ _ _ 92 [.int .u8 92] from rfl) (Reps.one (show Kd.M (Kd.int .u8) _ _ _ 116 [.int .u8 116] from rfl) (Reps.none _ _)))); intro v625 w23 ho24 hb hg_ hnew_; clear hg_ hnew_; (first | rw [← Ny624.out] at ho24 | (simp only [Int.reduceToNat] at ho24; rw [← Ny624.out] at ho24)); have HO626 := Aside0.mk (Kd.R_lower (Kd.R_new' ho24 (Kd.R_lt (by (with_reducible repeat (first | apply Kd.R_alloc | apply Kd.R_drewN | apply Kd.R_drew)); exact HO_3.out))) (below_size (hbT HB.out))); replace HO_3 := Aside0.mk (Kd.R_elder' (by (with_reducible repeat (first | apply Kd.R_alloc | apply Kd.R_drewN | apply Kd.R_drew)); exact HO_3.out) (Kd.R_base ho24) hb); replace HB := bsA HB hb; clear hb ho24; obtain ⟨Ao26, co26, eo26⟩ := Kd.R_slice HO626.out; subst eo26) | ((with_reducible refine gate_builtin (b := .append) (xs := #[.tmp 42, .tmp 43]) rfl ?_); at_builtin; refine Kd.R_append_rows (Kd.int .u8) (w0 := w) w.heap.size rfl (.tmp 42) (.tmp 43) 39 5 (.int .u8 0) 1 rfl Tryd.underlying39 info5 rfl (by decide) (by omega) u3 x3_1 y624 _ _ _ (fun k_ => some k_ ≠ (.slice Ao26 y624.length co26 : Value).ownBlock) (fun _ => False) rfl rfl ?aO ?aR (fun _ _ h => h) (fun _ h => h.elim) ?aF ?aB ?aS ?aL ?_; (case aR => repeat (first | exact (Kd.R_reads' HO626.out).2.2 | (with_reducible refine Kd.C_alloc ?_ _) | (with_reducible refine Kd.C_drewN ?_ _) | (with_reducible refine Kd.C_drew ?_))); (case aB => exact (hbT HB.out)); (case aF => exact (fun k_ hk => Kd.fresh' (Kd.R_lt (by (with_reducible repeat (first | apply Kd.R_alloc | apply Kd.R_drewN | apply Kd.R_drew)); exact HO626.out)) k_ hk)); (case aO => exact (by (with_reducible repeat (first | apply Kd.R_alloc | apply Kd.R_drewN | apply Kd.R_drew)); exact Kd.R_mono HO_3.out (fun _ hk => hk.2))); (case aS => exact (below_size (hbT HB.out))); (case aL => have := LMc22.out; omega); intro v628 w25 ho hb hg hat; rw [← Ny627.out] at ho; have n0_ := Aside0.mk (Kd.R_after (ok := (fun _ => True)) (by (with_reducible repeat (first | apply Kd.R_alloc | apply Kd.R_drewN | apply Kd.R_drew)); exact HO626.out) hg hat); have n1_ := Aside0.mk (hb); have n2_ := Aside0.mk (ho); clear HO626; clear HB; clear HO_3; have HO626 := n0_; have HB := n1_; have HO629 := n2_; clear n0_ n1_ n2_; clear ho hb hg hat))
                        go_roundg kj6
                        case measure => have := HK1.out; have := HJ6.out; omega
                        case rel => exact ⟨(y627), (wrap64 (x4_1 + 1)), (by first | rfl | (simp; done) | (simp [*]; done) | (simp; unfold wrap64; omega) | (congr 1; (try rw [Bool.eq_iff_iff]); simp [List.isEmpty_iff]; done)), H', ⟨by have := HK1.out; have := HJ6.out; omega⟩, ⟨by (with_reducible repeat (first | apply Kd.R_alloc | apply Kd.R_drewN | apply Kd.R_drew)); exact Kd.R_mono HO629.out (fun _ hk => trivial)⟩, ⟨hbT HB.out⟩⟩
                      · rw [if_neg c22] at H
                        exact absurd H (by simp)
                    · rw [if_neg c21] at H
                      have c21b0 : ((bt a0 x4_1) == 9) = false := beq_eq_false_iff_ne.mpr c21
                      have c21b1 : ((bt a0 x4_1) != 9) = true := bne_iff_ne.mpr c21
                      by_cases c27 : (bt a0 x4_1) < 32
                      · rw [if_pos c27] at H
                        have c27b0 : decide ((bt a0 x4_1) < 32) = true := decide_eq_true c27
                        clear c27
                        obtain ⟨ji28, hji28⟩ : ∃ j_ : Int, ((Int.tdiv (bt a0 x4_1) 16) % 256) = j_ := ⟨_, rfl⟩
                        replace H : (if 0 ≤ (ji28) then (if (ji28) < 16 then (if 0 ≤ (Int.tmod (bt a0 x4_1) 16) then (if (Int.tmod (bt a0 x4_1) 16) < 16 then ((some (([92, 120, bt (⟨#[48, 49, 50, 51, 52, 53, 54, 55, 56, 57, 97, 98, 99, 100, 101, 102]⟩ : ByteArray) (ji28), bt (⟨#[48, 49, 50, 51, 52, 53, 54, 55, 56, 57, 97, 98, 99, 100, 101, 102]⟩ : ByteArray) (Int.tmod (bt a0 x4_1) 16)] : List Int) : List Int)).bind fun y630 => (if x3_1.length + y630.length < 140737488355328 then (refrainref5_quoted.l0 kj6 a0 (x3_1 ++ y630) (wrap64 (x4_1 + 1))) else (none))) else (none)) else (none)) else (none)) else (none)) = some r := by first | (rw [hji28] at H; exact H) | (simp only [hji28] at H ⊢; exact H)
                        by_cases c29 : 0 ≤ (ji28)
                        · rw [if_pos c29] at H
                          have c29b0 : decide (0 ≤ (ji28)) = true := decide_eq_true c29
                          clear c29
                          by_cases c30 : (ji28) < 16
                          · rw [if_pos c30] at H
                            have c30b0 : decide ((ji28) < 16) = true := decide_eq_true c30
                            clear c30
                            obtain ⟨ji32, hji32⟩ : ∃ j_ : Int, (Int.tmod (bt a0 x4_1) 16) = j_ := ⟨_, rfl⟩
                            replace H : (if 0 ≤ (ji32) then (if (ji32) < 16 then ((some (([92, 120, bt (⟨#[48, 49, 50, 51, 52, 53, 54, 55, 56, 57, 97, 98, 99, 100, 101, 102]⟩ : ByteArray) (ji28), bt (⟨#[48, 49, 50, 51, 52, 53, 54, 55, 56, 57, 97, 98, 99, 100, 101, 102]⟩ : ByteArray) (ji32)] : List Int) : List Int)).bind fun y630 => (if x3_1.length + y630.length < 140737488355328 then (refrainref5_quoted.l0 kj6 a0 (x3_1 ++ y630) (wrap64 (x4_1 + 1))) else (none))) else (none)) else (none)) = some r := by first | (rw [hji32] at H; exact H) | (simp only [hji32] at H ⊢; exact H)
                            by_cases c33 : 0 ≤ (ji32)
                            · rw [if_pos c33] at H
                              have c33b0 : decide (0 ≤ (ji32)) = true := decide_eq_true c33
                              clear c33
                              by_cases c34 : (ji32) < 16
                              · rw [if_pos c34] at H
                                have c34b0 : decide ((ji32) < 16) = true := decide_eq_true c34
                                clear c34
                                obtain ⟨y630, hy630⟩ : ∃ y_ : List Int, y_ = (([92, 120, bt (⟨#[48, 49, 50, 51, 52, 53, 54, 55, 56, 57, 97, 98, 99, 100, 101, 102]⟩ : ByteArray) (ji28), bt (⟨#[48, 49, 50, 51, 52, 53, 54, 55, 56, 57, 97, 98, 99, 100, 101, 102]⟩ : ByteArray) (ji32)] : List Int)) := ⟨_, rfl⟩
                                replace H : (if x3_1.length + y630.length < 140737488355328 then (refrainref5_quoted.l0 kj6 a0 (x3_1 ++ y630) (wrap64 (x4_1 + 1))) else (none)) = some r := by first | (rw [hy630]; with_reducible exact H) | (have H2_ := (Option.bind_some _ _).symm.trans H; rw [hy630]; with_reducible exact H2_) | (have H2_ := (Option.bind_some _ _).symm.trans H; with_reducible exact H2_) | with_reducible exact H | (rw [hy630]; exact H) | exact H
                                have Ny630 := Aside0.mk hy630
                                clear hy630
                                by_cases c36 : x3_1.length + y630.length < 140737488355328
                                · rw [if_pos c36] at H
                                  have LMc36 := Aside0.mk c36
                                  clear c36
                                  obtain ⟨y633, hy633⟩ : ∃ y_ : List Int, y_ = (x3_1 ++ y630) := ⟨_, rfl⟩
                                  replace H : (refrainref5_quoted.l0 kj6 a0 y633 (wrap64 (x4_1 + 1))) = some r := by first | (rw [hy633]; with_reducible exact H) | (have H2_ := (Option.bind_some _ _).symm.trans H; rw [hy633]; with_reducible exact H2_) | (have H2_ := (Option.bind_some _ _).symm.trans H; with_reducible exact H2_) | with_reducible exact H | (rw [hy633]; exact H) | exact H
                                  have Ny633 := Aside0.mk hy633
                                  clear hy633
                                  have H' := Aside0.mk H
                                  clear H
                                  try go_wp2
                                  replace HO_3 := Aside0.mk (Kd.R_drew HO_3.out); replace HB := Aside0.mk (below_drew1 HB.out)
                                  have p31 : 0 ≤ ((ji28) : Int) := of_decide_eq_true (by first | (with_reducible assumption) | assumption)
                                  have q31 : (ji28) < (16 : Int) := of_decide_eq_true (by first | (with_reducible assumption) | assumption)
                                  have hx31 := bt_at (⟨#[48, 49, 50, 51, 52, 53, 54, 55, 56, 57, 97, 98, 99, 100, 101, 102]⟩ : ByteArray) (ji28)
                                  replace p31 := eq_true p31
                                  replace q31 := eq_true q31
                                  have p35 : 0 ≤ ((ji32) : Int) := of_decide_eq_true (by first | (with_reducible assumption) | assumption)
                                  have q35 : (ji32) < (16 : Int) := of_decide_eq_true (by first | (with_reducible assumption) | assumption)
                                  have hx35 := bt_at (⟨#[48, 49, 50, 51, 52, 53, 54, 55, 56, 57, 97, 98, 99, 100, 101, 102]⟩ : ByteArray) (ji32)
                                  replace p35 := eq_true p35
                                  replace q35 := eq_true q35
                                  refine start_ (n := 10) (S := fun w' => True) (ds := []) #[false, false, false, false, false, false, false, false, false, false] (by kernel_rfl) rfl rfl trivial (fun hHeld => ?_); refine with_tabW refrainref5_quoted.tab15 refrainref5_quoted.bits15 (fun HT_ HW_ => ?_)
                                  generalize wc.drew = w37 at HO_3 HB hHeld ⊢
                                  refine pure_ (i := 0) (N := some 52) (v := ?_) (a' := ?_) #[true, false, false, false, false, false, false, false, false, false] rfl rfl (any_of HT_.out (by kernel_rfl)) (fun _ _ _ h => h) (Or.inl ⟨by rfl, ?_⟩) ?_ ?_
                                  rotate_left; (focus (intro w'; go_simp; with_reducible rfl)); rotate_left; (focus (simp only [Act.put, List.setIfInBounds_toArray, List.set_cons_zero, List.set_cons_succ, i64_w, i32_w, IntKind.wrap_u8, IntKind.wrap_u16, IntKind.wrap_u32]; rfl))
                                  refine pure_ (i := 1) (N := some 53) (v := ?_) (a' := ?_) #[true, true, false, false, false, false, false, false, false, false] rfl rfl (any_of HT_.out (by kernel_rfl)) (fun _ _ _ h => h) (Or.inl ⟨by rfl, ?_⟩) ?_ ?_
                                  rotate_left; (focus (intro w'; go_simp; with_reducible rfl)); rotate_left; (focus (simp only [Act.put, List.setIfInBounds_toArray, List.set_cons_zero, List.set_cons_succ, i64_w, i32_w, IntKind.wrap_u8, IntKind.wrap_u16, IntKind.wrap_u32]; rfl))
                                  refine pure_ (i := 2) (N := some 54) (v := ?_) (a' := ?_) #[true, true, true, false, false, false, false, false, false, false] rfl rfl (any_of HT_.out (by kernel_rfl)) (fun _ _ _ h => h) (Or.inl ⟨by rfl, ?_⟩) ?_ ?_
                                  rotate_left; (focus (intro w'; go_simp; with_reducible rfl)); rotate_left; (focus (simp only [Act.put, List.setIfInBounds_toArray, List.set_cons_zero, List.set_cons_succ, i64_w, i32_w, IntKind.wrap_u8, IntKind.wrap_u16, IntKind.wrap_u32]; rfl))
                                  refine pure_ (i := 4) (N := some 56) (v := ?_) (a' := ?_) #[true, true, true, false, true, false, false, false, false, false] rfl rfl (any_of HT_.out (by kernel_rfl)) (fun _ _ _ h => h) (Or.inl ⟨by rfl, ?_⟩) ?_ ?_
                                  rotate_left; (focus (intro w'; go_simp; with_reducible rfl)); rotate_left; (focus (simp only [Act.put, List.setIfInBounds_toArray, List.set_cons_zero, List.set_cons_succ, i64_w, i32_w, IntKind.wrap_u8, IntKind.wrap_u16, IntKind.wrap_u32]; rfl))
                                  refine pure_ (i := 5) (N := some 57) (v := ?_) (a' := ?_) #[true, true, true, false, true, true, false, false, false, false] rfl rfl (any_of HT_.out (by kernel_rfl)) (fun _ _ _ h => h) (Or.inl ⟨by rfl, ?_⟩) ?_ ?_
                                  rotate_left; (focus (intro w'; go_simp; with_reducible rfl)); rotate_left; (focus (simp only [Act.put, List.setIfInBounds_toArray, List.set_cons_zero, List.set_cons_succ, i64_w, i32_w, IntKind.wrap_u8, IntKind.wrap_u16, IntKind.wrap_u32]; rfl))
                                  refine take_ (i := 3) (N := some 55) (v := ?_) (a' := ?_) #[true, true, true, true, true, true, false, false, false, false] rfl rfl (take_ofW HT_.out HW_.out (by kernel_rfl)) (fun _ _ _ h => h) (Or.inl ⟨by rfl, ?_⟩) hHeld ?_ ?_
                                  rotate_left
                                  · intro w' _
                                    go_simp
                                    with_reducible rfl
                                  rotate_left
                                  · simp only [Act.put, List.setIfInBounds_toArray, List.set_cons_zero, List.set_cons_succ, i64_w, i32_w, IntKind.wrap_u8, IntKind.wrap_u16, IntKind.wrap_u32]
                                    rfl
                                  refine take_ (i := 6) (N := some 58) (v := ?_) (a' := ?_) #[true, true, true, true, true, true, true, false, false, false] rfl rfl (take_ofW HT_.out HW_.out (by kernel_rfl)) (fun _ _ _ h => h) (Or.inl ⟨by rfl, ?_⟩) hHeld ?_ ?_
                                  rotate_left
                                  · intro w' _
                                    go_simp
                                    with_reducible rfl
                                  rotate_left
                                  · simp only [Act.put, List.setIfInBounds_toArray, List.set_cons_zero, List.set_cons_succ, i64_w, i32_w, IntKind.wrap_u8, IntKind.wrap_u16, IntKind.wrap_u32]
                                    rfl
                                  refine one_ (i := 7) (N := some 59) #[true, true, true, true, true, true, true, true, false, false] rfl rfl (one_of HT_.out (by kernel_rfl)) (by decide) (fun K hK => ?_)
                                  refine Kd.R_lit_step (Kd.int .u8) _ 5 ?hg (N := 59) ?hd (xs := ([92, 120, bt (⟨#[48, 49, 50, 51, 52, 53, 54, 55, 56, 57, 97, 98, 99, 100, 101, 102]⟩ : ByteArray) (ji28), bt (⟨#[48, 49, 50, 51, 52, 53, 54, 55, 56, 57, 97, 98, 99, 100, 101, 102]⟩ : ByteArray) (ji32)] : List Int)) (inner := [.int .u8 92, .int .u8 120, .int .u8 (bt (⟨#[48, 49, 50, 51, 52, 53, 54, 55, 56, 57, 97, 98, 99, 100, 101, 102]⟩ : ByteArray) (ji28)), .int .u8 (bt (⟨#[48, 49, 50, 51, 52, 53, 54, 55, 56, 57, 97, 98, 99, 100, 101, 102]⟩ : ByteArray) (ji32))]) (ok := fun _ => True) (okp := fun _ => True) ?hr ?hp (fun _ hk => hk) trivial (Below.refl _ _) (Nat.le_refl _) (by simp) ?_; (case hd => rfl); (case hg => rfl); (case hr => first | (go_simp; done) | (go_simp; rfl)); (case hp => exact (Reps.one (show Kd.M (Kd.int .u8) _ _ _ 92 [.int .u8 92] from rfl) (Reps.one (show Kd.M (Kd.int .u8) _ _ _ 120 [.int .u8 120] from rfl) (Reps.one (show Kd.M (Kd.int .u8) _ _ _ (bt (⟨#[48, 49, 50, 51, 52, 53, 54, 55, 56, 57, 97, 98, 99, 100, 101, 102]⟩ : ByteArray) (ji28)) [.int .u8 (bt (⟨#[48, 49, 50, 51, 52, 53, 54, 55, 56, 57, 97, 98, 99, 100, 101, 102]⟩ : ByteArray) (ji28))] from rfl) (Reps.one (show Kd.M (Kd.int .u8) _ _ _ (bt (⟨#[48, 49, 50, 51, 52, 53, 54, 55, 56, 57, 97, 98, 99, 100, 101, 102]⟩ : ByteArray) (ji32)) [.int .u8 (bt (⟨#[48, 49, 50, 51, 52, 53, 54, 55, 56, 57, 97, 98, 99, 100, 101, 102]⟩ : ByteArray) (ji32))] from rfl) (Reps.none _ _))))))
                                  intro v631 w38 ho39 hb hg_ hnew_
                                  clear hg_ hnew_
                                  (first | rw [← Ny630.out] at ho39 | (simp only [Int.reduceToNat] at ho39; rw [← Ny630.out] at ho39))
                                  have HO632 := Aside0.mk (Kd.R_lower (Kd.R_new' ho39 (Kd.R_lt (by (with_reducible repeat (first | apply Kd.R_alloc | apply Kd.R_drewN | apply Kd.R_drew)); exact HO_3.out))) (below_size (hbT HB.out))); replace HO_3 := Aside0.mk (Kd.R_elder' (by (with_reducible repeat (first | apply Kd.R_alloc | apply Kd.R_drewN | apply Kd.R_drew)); exact HO_3.out) (Kd.R_base ho39) hb); replace HB := bsA HB hb
                                  clear hb ho39
                                  obtain ⟨Ao41, co41, eo41⟩ := Kd.R_slice HO632.out
                                  (first | subst eo41 | (injection eo41 with f1_ f2_ f3_; have f4_ := f1_.symm; have f5_ := f3_.symm; clear f1_ f2_ f3_; subst f4_; subst f5_))
                                  refine hK.out _ _ trivial (fun hHeld => ?_)
                                  clear hK K
                                  refine norm_ (a' := ?_) ?_ ?_
                                  rotate_left
                                  · show Act.put _ (some 59) _ = _
                                    simp only [Act.put, List.setIfInBounds_toArray, List.set_cons_zero, List.set_cons_succ, i64_w, i32_w, IntKind.wrap_u8, IntKind.wrap_u16, IntKind.wrap_u32]
                                    rfl
                                  refine one_ (i := 8) (N := some 60) #[true, true, true, true, true, true, true, true, true, false] rfl rfl (one_of HT_.out (by kernel_rfl)) (by decide) (fun K hK => ?_)
                                  refine Kd.R_append_rows_step (Kd.int .u8) (w0 := w) w.heap.size (by rfl) (.tmp 52) (.tmp 59) 39 5 (.int .u8 0) 1 rfl Tryd.underlying39 info5 rfl (by decide) (by omega) u3 x3_1 y630 _ _ _ (fun k_ => some k_ ≠ (.slice Ao41 y630.length co41 : Value).ownBlock) (fun _ => False) rfl rfl ?aO ?aR (fun _ _ h => h) (fun _ h => h.elim) ?aF ?aB ?aS ?aL ?_
                                  (case aR => repeat (first | exact (Kd.R_reads' HO632.out).2.2 | (with_reducible refine Kd.C_alloc ?_ _) | (with_reducible refine Kd.C_drewN ?_ _) | (with_reducible refine Kd.C_drew ?_)))
                                  (case aB => exact (hbT HB.out))
                                  (case aF => exact (fun k_ hk => Kd.fresh' (Kd.R_lt (by (with_reducible repeat (first | apply Kd.R_alloc | apply Kd.R_drewN | apply Kd.R_drew)); exact HO632.out)) k_ hk))
                                  (case aO => exact (by (with_reducible repeat (first | apply Kd.R_alloc | apply Kd.R_drewN | apply Kd.R_drew)); exact Kd.R_mono HO_3.out (fun _ hk => hk.2)))
                                  (case aS => exact (below_size (hbT HB.out)))
                                  (case aL => have := LMc36.out; omega)
                                  intro v634 w40 ho hb hg hat
                                  rw [← Ny633.out] at ho
                                  have n0_ := Aside0.mk (Kd.R_after (ok := (fun _ => True)) (by (with_reducible repeat (first | apply Kd.R_alloc | apply Kd.R_drewN | apply Kd.R_drew)); exact HO632.out) hg hat); have n1_ := Aside0.mk (hb); have n2_ := Aside0.mk (ho); clear HO632; clear HB; clear HO_3; have HO632 := n0_; have HB := n1_; have HO635 := n2_; clear n0_ n1_ n2_
                                  clear ho hb hg hat
                                  refine hK.out _ _ trivial (fun hHeld => ?_)
                                  clear hK K
                                  refine norm_ (a' := ?_) ?_ ?_
                                  rotate_left
                                  · show Act.put _ (some 60) _ = _
                                    simp only [Act.put, List.setIfInBounds_toArray, List.set_cons_zero, List.set_cons_succ, i64_w, i32_w, IntKind.wrap_u8, IntKind.wrap_u16, IntKind.wrap_u32]
                                    rfl
                                  refine pure_ (i := 9) (N := some 3) (v := ?_) (a' := ?_) #[true, true, true, true, true, true, true, true, true, true] rfl rfl (any_of HT_.out (by kernel_rfl)) (fun _ _ _ h => h) (Or.inl ⟨by rfl, ?_⟩) ?_ ?_
                                  rotate_left; (focus (intro w'; go_simp; with_reducible rfl)); rotate_left; (focus (simp only [Act.put, List.setIfInBounds_toArray, List.set_cons_zero, List.set_cons_succ, i64_w, i32_w, IntKind.wrap_u8, IntKind.wrap_u16, IntKind.wrap_u32]; rfl))
                                  refine done_ (done_of HT_.out (by kernel_rfl)) ?_
                                  try go_wp2
                                  go_roundg kj6
                                  case measure => have := HK1.out; have := HJ6.out; omega
                                  case rel => exact ⟨(y633), (wrap64 (x4_1 + 1)), (by first | rfl | (simp; done) | (simp [*]; done) | (simp; unfold wrap64; omega) | (congr 1; (try rw [Bool.eq_iff_iff]); simp [List.isEmpty_iff]; done)), H', ⟨by have := HK1.out; have := HJ6.out; omega⟩, ⟨by (with_reducible repeat (first | apply Kd.R_alloc | apply Kd.R_drewN | apply Kd.R_drew)); exact Kd.R_mono HO635.out (fun _ hk => trivial)⟩, ⟨hbT HB.out⟩⟩
                                · rw [if_neg c36] at H
                                  exact absurd H (by simp)
                              · rw [if_neg c34] at H
                                exact absurd H (by simp)
                            · rw [if_neg c33] at H
                              exact absurd H (by simp)
                          · rw [if_neg c30] at H
                            exact absurd H (by simp)
                        · rw [if_neg c29] at H
                          exact absurd H (by simp)
                      · rw [if_neg c27] at H
                        have c27b0 : decide ((bt a0 x4_1) < 32) = false := decide_eq_false c27
                        clear c27
                        by_cases c42 : (bt a0 x4_1) > 126
                        · rw [if_pos c42] at H
                          have c42b0 : decide (126 < (bt a0 x4_1)) = true := decide_eq_true c42
                          clear c42
                          obtain ⟨ji43, hji43⟩ : ∃ j_ : Int, ((Int.tdiv (bt a0 x4_1) 16) % 256) = j_ := ⟨_, rfl⟩
                          replace H : (if 0 ≤ (ji43) then (if (ji43) < 16 then (if 0 ≤ (Int.tmod (bt a0 x4_1) 16) then (if (Int.tmod (bt a0 x4_1) 16) < 16 then ((some (([92, 120, bt (⟨#[48, 49, 50, 51, 52, 53, 54, 55, 56, 57, 97, 98, 99, 100, 101, 102]⟩ : ByteArray) (ji43), bt (⟨#[48, 49, 50, 51, 52, 53, 54, 55, 56, 57, 97, 98, 99, 100, 101, 102]⟩ : ByteArray) (Int.tmod (bt a0 x4_1) 16)] : List Int) : List Int)).bind fun y636 => (if x3_1.length + y636.length < 140737488355328 then (refrainref5_quoted.l0 kj6 a0 (x3_1 ++ y636) (wrap64 (x4_1 + 1))) else (none))) else (none)) else (none)) else (none)) else (none)) = some r := by first | (rw [hji43] at H; exact H) | (simp only [hji43] at H ⊢; exact H)
                          by_cases c44 : 0 ≤ (ji43)
                          · rw [if_pos c44] at H
                            have c44b0 : decide (0 ≤ (ji43)) = true := decide_eq_true c44
                            clear c44
                            by_cases c45 : (ji43) < 16
                            · rw [if_pos c45] at H
                              have c45b0 : decide ((ji43) < 16) = true := decide_eq_true c45
                              clear c45
                              obtain ⟨ji47, hji47⟩ : ∃ j_ : Int, (Int.tmod (bt a0 x4_1) 16) = j_ := ⟨_, rfl⟩
                              replace H : (if 0 ≤ (ji47) then (if (ji47) < 16 then ((some (([92, 120, bt (⟨#[48, 49, 50, 51, 52, 53, 54, 55, 56, 57, 97, 98, 99, 100, 101, 102]⟩ : ByteArray) (ji43), bt (⟨#[48, 49, 50, 51, 52, 53, 54, 55, 56, 57, 97, 98, 99, 100, 101, 102]⟩ : ByteArray) (ji47)] : List Int) : List Int)).bind fun y636 => (if x3_1.length + y636.length < 140737488355328 then (refrainref5_quoted.l0 kj6 a0 (x3_1 ++ y636) (wrap64 (x4_1 + 1))) else (none))) else (none)) else (none)) = some r := by first | (rw [hji47] at H; exact H) | (simp only [hji47] at H ⊢; exact H)
                              by_cases c48 : 0 ≤ (ji47)
                              · rw [if_pos c48] at H
                                have c48b0 : decide (0 ≤ (ji47)) = true := decide_eq_true c48
                                clear c48
                                by_cases c49 : (ji47) < 16
                                · rw [if_pos c49] at H
                                  have c49b0 : decide ((ji47) < 16) = true := decide_eq_true c49
                                  clear c49
                                  obtain ⟨y636, hy636⟩ : ∃ y_ : List Int, y_ = (([92, 120, bt (⟨#[48, 49, 50, 51, 52, 53, 54, 55, 56, 57, 97, 98, 99, 100, 101, 102]⟩ : ByteArray) (ji43), bt (⟨#[48, 49, 50, 51, 52, 53, 54, 55, 56, 57, 97, 98, 99, 100, 101, 102]⟩ : ByteArray) (ji47)] : List Int)) := ⟨_, rfl⟩
                                  replace H : (if x3_1.length + y636.length < 140737488355328 then (refrainref5_quoted.l0 kj6 a0 (x3_1 ++ y636) (wrap64 (x4_1 + 1))) else (none)) = some r := by first | (rw [hy636]; with_reducible exact H) | (have H2_ := (Option.bind_some _ _).symm.trans H; rw [hy636]; with_reducible exact H2_) | (have H2_ := (Option.bind_some _ _).symm.trans H; with_reducible exact H2_) | with_reducible exact H | (rw [hy636]; exact H) | exact H
                                  have Ny636 := Aside0.mk hy636
                                  clear hy636
                                  by_cases c51 : x3_1.length + y636.length < 140737488355328
                                  · rw [if_pos c51] at H
                                    have LMc51 := Aside0.mk c51
                                    clear c51
                                    obtain ⟨y639, hy639⟩ : ∃ y_ : List Int, y_ = (x3_1 ++ y636) := ⟨_, rfl⟩
                                    replace H : (refrainref5_quoted.l0 kj6 a0 y639 (wrap64 (x4_1 + 1))) = some r := by first | (rw [hy639]; with_reducible exact H) | (have H2_ := (Option.bind_some _ _).symm.trans H; rw [hy639]; with_reducible exact H2_) | (have H2_ := (Option.bind_some _ _).symm.trans H; with_reducible exact H2_) | with_reducible exact H | (rw [hy639]; exact H) | exact H
                                    have Ny639 := Aside0.mk hy639
                                    clear hy639
                                    have H' := Aside0.mk H
                                    clear H
                                    try go_wp2
                                    replace HO_3 := Aside0.mk (Kd.R_drew HO_3.out); replace HB := Aside0.mk (below_drew1 HB.out)
                                    have p46 : 0 ≤ ((ji43) : Int) := of_decide_eq_true (by first | (with_reducible assumption) | assumption)
                                    have q46 : (ji43) < (16 : Int) := of_decide_eq_true (by first | (with_reducible assumption) | assumption)
                                    have hx46 := bt_at (⟨#[48, 49, 50, 51, 52, 53, 54, 55, 56, 57, 97, 98, 99, 100, 101, 102]⟩ : ByteArray) (ji43)
                                    replace p46 := eq_true p46
                                    replace q46 := eq_true q46
                                    have p50 : 0 ≤ ((ji47) : Int) := of_decide_eq_true (by first | (with_reducible assumption) | assumption)
                                    have q50 : (ji47) < (16 : Int) := of_decide_eq_true (by first | (with_reducible assumption) | assumption)
                                    have hx50 := bt_at (⟨#[48, 49, 50, 51, 52, 53, 54, 55, 56, 57, 97, 98, 99, 100, 101, 102]⟩ : ByteArray) (ji47)
                                    replace p50 := eq_true p50
                                    replace q50 := eq_true q50
                                    refine start_ (n := 10) (S := fun w' => True) (ds := []) #[false, false, false, false, false, false, false, false, false, false] (by kernel_rfl) rfl rfl trivial (fun hHeld => ?_); refine with_tabW refrainref5_quoted.tab15 refrainref5_quoted.bits15 (fun HT_ HW_ => ?_)
                                    generalize wc.drew = w52 at HO_3 HB hHeld ⊢
                                    refine pure_ (i := 0) (N := some 52) (v := ?_) (a' := ?_) #[true, false, false, false, false, false, false, false, false, false] rfl rfl (any_of HT_.out (by kernel_rfl)) (fun _ _ _ h => h) (Or.inl ⟨by rfl, ?_⟩) ?_ ?_
                                    rotate_left; (focus (intro w'; go_simp; with_reducible rfl)); rotate_left; (focus (simp only [Act.put, List.setIfInBounds_toArray, List.set_cons_zero, List.set_cons_succ, i64_w, i32_w, IntKind.wrap_u8, IntKind.wrap_u16, IntKind.wrap_u32]; rfl))
                                    refine pure_ (i := 1) (N := some 53) (v := ?_) (a' := ?_) #[true, true, false, false, false, false, false, false, false, false] rfl rfl (any_of HT_.out (by kernel_rfl)) (fun _ _ _ h => h) (Or.inl ⟨by rfl, ?_⟩) ?_ ?_
                                    rotate_left; (focus (intro w'; go_simp; with_reducible rfl)); rotate_left; (focus (simp only [Act.put, List.setIfInBounds_toArray, List.set_cons_zero, List.set_cons_succ, i64_w, i32_w, IntKind.wrap_u8, IntKind.wrap_u16, IntKind.wrap_u32]; rfl))
                                    refine pure_ (i := 2) (N := some 54) (v := ?_) (a' := ?_) #[true, true, true, false, false, false, false, false, false, false] rfl rfl (any_of HT_.out (by kernel_rfl)) (fun _ _ _ h => h) (Or.inl ⟨by rfl, ?_⟩) ?_ ?_
                                    rotate_left; (focus (intro w'; go_simp; with_reducible rfl)); rotate_left; (focus (simp only [Act.put, List.setIfInBounds_toArray, List.set_cons_zero, List.set_cons_succ, i64_w, i32_w, IntKind.wrap_u8, IntKind.wrap_u16, IntKind.wrap_u32]; rfl))
                                    refine pure_ (i := 4) (N := some 56) (v := ?_) (a' := ?_) #[true, true, true, false, true, false, false, false, false, false] rfl rfl (any_of HT_.out (by kernel_rfl)) (fun _ _ _ h => h) (Or.inl ⟨by rfl, ?_⟩) ?_ ?_
                                    rotate_left; (focus (intro w'; go_simp; with_reducible rfl)); rotate_left; (focus (simp only [Act.put, List.setIfInBounds_toArray, List.set_cons_zero, List.set_cons_succ, i64_w, i32_w, IntKind.wrap_u8, IntKind.wrap_u16, IntKind.wrap_u32]; rfl))
                                    refine pure_ (i := 5) (N := some 57) (v := ?_) (a' := ?_) #[true, true, true, false, true, true, false, false, false, false] rfl rfl (any_of HT_.out (by kernel_rfl)) (fun _ _ _ h => h) (Or.inl ⟨by rfl, ?_⟩) ?_ ?_
                                    rotate_left; (focus (intro w'; go_simp; with_reducible rfl)); rotate_left; (focus (simp only [Act.put, List.setIfInBounds_toArray, List.set_cons_zero, List.set_cons_succ, i64_w, i32_w, IntKind.wrap_u8, IntKind.wrap_u16, IntKind.wrap_u32]; rfl))
                                    refine take_ (i := 3) (N := some 55) (v := ?_) (a' := ?_) #[true, true, true, true, true, true, false, false, false, false] rfl rfl (take_ofW HT_.out HW_.out (by kernel_rfl)) (fun _ _ _ h => h) (Or.inl ⟨by rfl, ?_⟩) hHeld ?_ ?_
                                    rotate_left
                                    · intro w' _
                                      go_simp
                                      with_reducible rfl
                                    rotate_left
                                    · simp only [Act.put, List.setIfInBounds_toArray, List.set_cons_zero, List.set_cons_succ, i64_w, i32_w, IntKind.wrap_u8, IntKind.wrap_u16, IntKind.wrap_u32]
                                      rfl
                                    refine take_ (i := 6) (N := some 58) (v := ?_) (a' := ?_) #[true, true, true, true, true, true, true, false, false, false] rfl rfl (take_ofW HT_.out HW_.out (by kernel_rfl)) (fun _ _ _ h => h) (Or.inl ⟨by rfl, ?_⟩) hHeld ?_ ?_
                                    rotate_left
                                    · intro w' _
                                      go_simp
                                      with_reducible rfl
                                    rotate_left
                                    · simp only [Act.put, List.setIfInBounds_toArray, List.set_cons_zero, List.set_cons_succ, i64_w, i32_w, IntKind.wrap_u8, IntKind.wrap_u16, IntKind.wrap_u32]
                                      rfl
                                    refine one_ (i := 7) (N := some 59) #[true, true, true, true, true, true, true, true, false, false] rfl rfl (one_of HT_.out (by kernel_rfl)) (by decide) (fun K hK => ?_)
                                    refine Kd.R_lit_step (Kd.int .u8) _ 5 ?hg (N := 59) ?hd (xs := ([92, 120, bt (⟨#[48, 49, 50, 51, 52, 53, 54, 55, 56, 57, 97, 98, 99, 100, 101, 102]⟩ : ByteArray) (ji43), bt (⟨#[48, 49, 50, 51, 52, 53, 54, 55, 56, 57, 97, 98, 99, 100, 101, 102]⟩ : ByteArray) (ji47)] : List Int)) (inner := [.int .u8 92, .int .u8 120, .int .u8 (bt (⟨#[48, 49, 50, 51, 52, 53, 54, 55, 56, 57, 97, 98, 99, 100, 101, 102]⟩ : ByteArray) (ji43)), .int .u8 (bt (⟨#[48, 49, 50, 51, 52, 53, 54, 55, 56, 57, 97, 98, 99, 100, 101, 102]⟩ : ByteArray) (ji47))]) (ok := fun _ => True) (okp := fun _ => True) ?hr ?hp (fun _ hk => hk) trivial (Below.refl _ _) (Nat.le_refl _) (by simp) ?_; (case hd => rfl); (case hg => rfl); (case hr => first | (go_simp; done) | (go_simp; rfl)); (case hp => exact (Reps.one (show Kd.M (Kd.int .u8) _ _ _ 92 [.int .u8 92] from rfl) (Reps.one (show Kd.M (Kd.int .u8) _ _ _ 120 [.int .u8 120] from rfl) (Reps.one (show Kd.M (Kd.int .u8) _ _ _ (bt (⟨#[48, 49, 50, 51, 52, 53, 54, 55, 56, 57, 97, 98, 99, 100, 101, 102]⟩ : ByteArray) (ji43)) [.int .u8 (bt (⟨#[48, 49, 50, 51, 52, 53, 54, 55, 56, 57, 97, 98, 99, 100, 101, 102]⟩ : ByteArray) (ji43))] from rfl) (Reps.one (show Kd.M (Kd.int .u8) _ _ _ (bt (⟨#[48, 49, 50, 51, 52, 53, 54, 55, 56, 57, 97, 98, 99, 100, 101, 102]⟩ : ByteArray) (ji47)) [.int .u8 (bt (⟨#[48, 49, 50, 51, 52, 53, 54, 55, 56, 57, 97, 98, 99, 100, 101, 102]⟩ : ByteArray) (ji47))] from rfl) (Reps.none _ _))))))
                                    intro v637 w53 ho54 hb hg_ hnew_
                                    clear hg_ hnew_
                                    (first | rw [← Ny636.out] at ho54 | (simp only [Int.reduceToNat] at ho54; rw [← Ny636.out] at ho54))
                                    have HO638 := Aside0.mk (Kd.R_lower (Kd.R_new' ho54 (Kd.R_lt (by (with_reducible repeat (first | apply Kd.R_alloc | apply Kd.R_drewN | apply Kd.R_drew)); exact HO_3.out))) (below_size (hbT HB.out))); replace HO_3 := Aside0.mk (Kd.R_elder' (by (with_reducible repeat (first | apply Kd.R_alloc | apply Kd.R_drewN | apply Kd.R_drew)); exact HO_3.out) (Kd.R_base ho54) hb); replace HB := bsA HB hb
                                    clear hb ho54
                                    obtain ⟨Ao56, co56, eo56⟩ := Kd.R_slice HO638.out
                                    (first | subst eo56 | (injection eo56 with f1_ f2_ f3_; have f4_ := f1_.symm; have f5_ := f3_.symm; clear f1_ f2_ f3_; subst f4_; subst f5_))
                                    refine hK.out _ _ trivial (fun hHeld => ?_)
                                    clear hK K
                                    refine norm_ (a' := ?_) ?_ ?_
                                    rotate_left
                                    · show Act.put _ (some 59) _ = _
                                      simp only [Act.put, List.setIfInBounds_toArray, List.set_cons_zero, List.set_cons_succ, i64_w, i32_w, IntKind.wrap_u8, IntKind.wrap_u16, IntKind.wrap_u32]
                                      rfl
                                    refine one_ (i := 8) (N := some 60) #[true, true, true, true, true, true, true, true, true, false] rfl rfl (one_of HT_.out (by kernel_rfl)) (by decide) (fun K hK => ?_)
                                    refine Kd.R_append_rows_step (Kd.int .u8) (w0 := w) w.heap.size (by rfl) (.tmp 52) (.tmp 59) 39 5 (.int .u8 0) 1 rfl Tryd.underlying39 info5 rfl (by decide) (by omega) u3 x3_1 y636 _ _ _ (fun k_ => some k_ ≠ (.slice Ao56 y636.length co56 : Value).ownBlock) (fun _ => False) rfl rfl ?aO ?aR (fun _ _ h => h) (fun _ h => h.elim) ?aF ?aB ?aS ?aL ?_
                                    (case aR => repeat (first | exact (Kd.R_reads' HO638.out).2.2 | (with_reducible refine Kd.C_alloc ?_ _) | (with_reducible refine Kd.C_drewN ?_ _) | (with_reducible refine Kd.C_drew ?_)))
                                    (case aB => exact (hbT HB.out))
                                    (case aF => exact (fun k_ hk => Kd.fresh' (Kd.R_lt (by (with_reducible repeat (first | apply Kd.R_alloc | apply Kd.R_drewN | apply Kd.R_drew)); exact HO638.out)) k_ hk))
                                    (case aO => exact (by (with_reducible repeat (first | apply Kd.R_alloc | apply Kd.R_drewN | apply Kd.R_drew)); exact Kd.R_mono HO_3.out (fun _ hk => hk.2)))
                                    (case aS => exact (below_size (hbT HB.out)))
                                    (case aL => have := LMc51.out; omega)
                                    intro v640 w55 ho hb hg hat
                                    rw [← Ny639.out] at ho
                                    have n0_ := Aside0.mk (Kd.R_after (ok := (fun _ => True)) (by (with_reducible repeat (first | apply Kd.R_alloc | apply Kd.R_drewN | apply Kd.R_drew)); exact HO638.out) hg hat); have n1_ := Aside0.mk (hb); have n2_ := Aside0.mk (ho); clear HO638; clear HB; clear HO_3; have HO638 := n0_; have HB := n1_; have HO641 := n2_; clear n0_ n1_ n2_
                                    clear ho hb hg hat
                                    refine hK.out _ _ trivial (fun hHeld => ?_)
                                    clear hK K
                                    refine norm_ (a' := ?_) ?_ ?_
                                    rotate_left
                                    · show Act.put _ (some 60) _ = _
                                      simp only [Act.put, List.setIfInBounds_toArray, List.set_cons_zero, List.set_cons_succ, i64_w, i32_w, IntKind.wrap_u8, IntKind.wrap_u16, IntKind.wrap_u32]
                                      rfl
                                    refine pure_ (i := 9) (N := some 3) (v := ?_) (a' := ?_) #[true, true, true, true, true, true, true, true, true, true] rfl rfl (any_of HT_.out (by kernel_rfl)) (fun _ _ _ h => h) (Or.inl ⟨by rfl, ?_⟩) ?_ ?_
                                    rotate_left; (focus (intro w'; go_simp; with_reducible rfl)); rotate_left; (focus (simp only [Act.put, List.setIfInBounds_toArray, List.set_cons_zero, List.set_cons_succ, i64_w, i32_w, IntKind.wrap_u8, IntKind.wrap_u16, IntKind.wrap_u32]; rfl))
                                    refine done_ (done_of HT_.out (by kernel_rfl)) ?_
                                    try go_wp2
                                    go_roundg kj6
                                    case measure => have := HK1.out; have := HJ6.out; omega
                                    case rel => exact ⟨(y639), (wrap64 (x4_1 + 1)), (by first | rfl | (simp; done) | (simp [*]; done) | (simp; unfold wrap64; omega) | (congr 1; (try rw [Bool.eq_iff_iff]); simp [List.isEmpty_iff]; done)), H', ⟨by have := HK1.out; have := HJ6.out; omega⟩, ⟨by (with_reducible repeat (first | apply Kd.R_alloc | apply Kd.R_drewN | apply Kd.R_drew)); exact Kd.R_mono HO641.out (fun _ hk => trivial)⟩, ⟨hbT HB.out⟩⟩
                                  · rw [if_neg c51] at H
                                    exact absurd H (by simp)
                                · rw [if_neg c49] at H
                                  exact absurd H (by simp)
                              · rw [if_neg c48] at H
                                exact absurd H (by simp)
                            · rw [if_neg c45] at H
                              exact absurd H (by simp)
                          · rw [if_neg c44] at H
                            exact absurd H (by simp)
                        · rw [if_neg c42] at H
                          have c42b0 : decide (126 < (bt a0 x4_1)) = false := decide_eq_false c42
                          clear c42
                          by_cases c57 : x3_1.length < 140737488355328
                          · rw [if_pos c57] at H
                            have LMc57 := Aside0.mk c57
                            clear c57
                            obtain ⟨y642, hy642⟩ : ∃ y_ : List Int, y_ = (x3_1 ++ [(bt a0 x4_1)]) := ⟨_, rfl⟩
                            replace H : (refrainref5_quoted.l0 kj6 a0 y642 (wrap64 (x4_1 + 1))) = some r := by first | (rw [hy642]; with_reducible exact H) | (have H2_ := (Option.bind_some _ _).symm.trans H; rw [hy642]; with_reducible exact H2_) | (have H2_ := (Option.bind_some _ _).symm.trans H; with_reducible exact H2_) | with_reducible exact H | (rw [hy642]; exact H) | exact H
                            have Ny642 := Aside0.mk hy642
                            clear hy642
                            have H' := Aside0.mk H
                            clear H
                            go_wp2_with (first | ((with_reducible refine gate_builtin (b := .append) (xs := #[.tmp 18, .tmp 20]) rfl ?_); at_builtin; refine Kd.R_append (Kd.int .u8) (w0 := w) w.heap.size rfl (.tmp 18) (.tmp 20) 39 5 (.int .u8 0) 1 rfl Tryd.underlying39 info5 rfl (by decide) (by omega) u3 x3_1 (bt a0 x4_1) [.int .u8 (bt a0 x4_1)] (fun _ => True) (fun _ => False) rfl rfl ?aP (fun _ hk => hk.elim) ?aF ?aO ?aB ?aS ?aL ?_; (case aP => exact rfl); (case aB => exact (hbT HB.out)); (case aF => exact (fun _ _ => trivial)); (case aO => exact (by (with_reducible repeat (first | apply Kd.R_alloc | apply Kd.R_drewN | apply Kd.R_drew)); exact HO_3.out)); (case aS => exact (below_size (hbT HB.out))); (case aL => have := LMc57.out; omega); intro v643 w58 ho hb hg hat; rw [← Ny642.out] at ho; have n0_ := Aside0.mk (hb); have n1_ := Aside0.mk (ho); clear HB; clear HO_3; have HB := n0_; have HO644 := n1_; clear n0_ n1_; clear ho hb hg hat))
                            go_roundg kj6
                            case measure => have := HK1.out; have := HJ6.out; omega
                            case rel => exact ⟨(y642), (wrap64 (x4_1 + 1)), (by first | rfl | (simp; done) | (simp [*]; done) | (simp; unfold wrap64; omega) | (congr 1; (try rw [Bool.eq_iff_iff]); simp [List.isEmpty_iff]; done)), H', ⟨by have := HK1.out; have := HJ6.out; omega⟩, ⟨by (with_reducible repeat (first | apply Kd.R_alloc | apply Kd.R_drewN | apply Kd.R_drew)); exact HO644.out⟩, ⟨hbT HB.out⟩⟩
                          · rw [if_neg c57] at H
                            exact absurd H (by simp)
          · rw [if_neg c5] at H
            exact absurd H (by simp)
        · rw [if_neg c4] at H
          have c4b0 : decide (x4_1 < (a0.size : Int)) = false := decide_eq_false c4
          clear c4
          by_cases c59 : x3_1.length < 140737488355328
          · rw [if_pos c59] at H
            have LMc59 := Aside0.mk c59
            clear c59
            obtain ⟨y609, hy609⟩ : ∃ y_ : List Int, y_ = (x3_1 ++ [34]) := ⟨_, rfl⟩
            replace H : (some (strOfNums y609)) = some r := by first | (rw [hy609]; with_reducible exact H) | (have H2_ := (Option.bind_some _ _).symm.trans H; rw [hy609]; with_reducible exact H2_) | (have H2_ := (Option.bind_some _ _).symm.trans H; with_reducible exact H2_) | with_reducible exact H | (rw [hy609]; exact H) | exact H
            have Ny609 := Aside0.mk hy609
            clear hy609
            obtain rfl := Option.some.inj H
            go_wp2_with (first | ((with_reducible refine gate_builtin (b := .append) (xs := #[.tmp 61, .tmp 62]) rfl ?_); at_builtin; refine Kd.R_append (Kd.int .u8) (w0 := w) w.heap.size rfl (.tmp 61) (.tmp 62) 39 5 (.int .u8 0) 1 rfl Tryd.underlying39 info5 rfl (by decide) (by omega) u3 x3_1 34 [.int .u8 34] (fun _ => True) (fun _ => False) rfl rfl ?aP (fun _ hk => hk.elim) ?aF ?aO ?aB ?aS ?aL ?_; (case aP => exact rfl); (case aB => exact (hbT HB.out)); (case aF => exact (fun _ _ => trivial)); (case aO => exact (by (with_reducible repeat (first | apply Kd.R_alloc | apply Kd.R_drewN | apply Kd.R_drew)); exact HO_3.out)); (case aS => exact (below_size (hbT HB.out))); (case aL => have := LMc59.out; omega); intro v610 w60 ho hb hg hat; rw [← Ny609.out] at ho; have n0_ := Aside0.mk (hb); have n1_ := Aside0.mk (ho); clear HB; clear HO_3; have HB := n0_; have HO611 := n1_; clear n0_ n1_; clear ho hb hg hat; have hcv61 := own_string (P := Tryd.prog) Tryd.underlying39 Tryd.underlying5 Tryd.underlying9 (Kd.own_of_R HO611.out)))
            go_ret
            exact ⟨by first | rfl | (simp [errW_none, errW_some] <;> rfl) | (simp [*, errW_none, errW_some] <;> rfl), hbT HB.out⟩
          · rw [if_neg c59] at H
            exact absurd H (by simp)
  · rw [if_neg c2] at H
    exact absurd H (by simp)

end Go.Proofs.YthmcapdakplhdaaDoor.Pr
end

/-! ## text Prx31 -/
section
namespace Go.Proofs.YthmcapdakplhdaaDoor.Pr
open Go.RowKit Go.Proofs.YthmcapdakplhdaaDoorW.PrintWords Go.Proofs.YthmcapdakplhdaaDoorW.PrintLast Go.Proofs.YthmcapdakplhdaaDoorW.PrintMore
attribute [local go_sem] max2_int min2_int max_two min_two max_three min_three max_four min_four   -- for this text's walks alone
attribute [local go_sem high] Go.Proofs.YthmcapdakplhdaaDoor.isSome_setCell
set_option maxRecDepth 100000
set_option linter.unusedVariables false
set_option linter.unusedSimpArgs false

/-! ### refrainref5_Spell: function 57 -/
mutual
def refrainref5_Spell.l0 : Nat → List (S44) → Int → Option (ByteArray × Int)
  | 0, _, _ => none
  | k + 1, x0, x4 => if x4 < (x0.length : Int) then (if 0 ≤ x4 then ((refrainref5_can.f k ((rd_T44 x0 x4).f0) ((rd_T44 x0 x4).f1) ((rd_T44 x0 x4).f2) (x4 == (wrap64 ((x0.length : Int) - 1)))).bind fun t646 => (if t646 = true then (refrainref5_Spell.l0 k x0 (wrap64 (x4 + 1))) else (some ((⟨#[]⟩ : ByteArray), 1)))) else (none)) else (refrainref5_Spell.l1 k x0 ([] : List Int) 0)
def refrainref5_Spell.l1 : Nat → List (S44) → List Int → Int → Option (ByteArray × Int)
  | 0, _, _, _ => none
  | k + 1, x0, x5, x6 => if x6 < (x0.length : Int) then (if 0 ≤ x6 then (if ((rd_T44 x0 x6).f0) = 5 then (if (x5.length : Int) > 4096 then (some ((⟨#[]⟩ : ByteArray), 2)) else (some (strOfNums x5, 0))) else (if x6 > 0 then (if x5.length < 140737488355328 then (refrainref5_Spell.j2 k x0 (x5 ++ [32]) x6) else (none)) else (refrainref5_Spell.j2 k x0 x5 x6))) else (none)) else (if (x5.length : Int) > 4096 then (some ((⟨#[]⟩ : ByteArray), 2)) else (some (strOfNums x5, 0)))
def refrainref5_Spell.j2 : Nat → List (S44) → List Int → Int → Option (ByteArray × Int)
  | 0, _, _, _ => none
  | k + 1, x0, x5, x6 => if 0 ≤ x6 then (if x6 < (x0.length : Int) then (if (wrap64 ((x5.length : Int) + (((rd_T44 x0 x6).f1).size : Int))) > 4096 then (some ((⟨#[]⟩ : ByteArray), 2)) else (if ((rd_T44 x0 x6).f0) = 3 then ((refrainref5_quoted.f k ((rd_T44 x0 x6).f1)).bind fun t654 => (if x5.length + t654.size < 140737488355328 then (refrainref5_Spell.l1 k x0 (x5 ++ bytesOf t654) (wrap64 (x6 + 1))) else (none))) else (if x5.length + ((rd_T44 x0 x6).f1).size < 140737488355328 then (refrainref5_Spell.l1 k x0 (x5 ++ bytesOf ((rd_T44 x0 x6).f1)) (wrap64 (x6 + 1))) else (none)))) else (none)) else (none)
end
def refrainref5_Spell.f (k : Nat) (l0 : List (S44)) : Option (ByteArray × Int) := refrainref5_Spell.l0 k l0 0
set_option maxRecDepth 100000 in
theorem refrainref5_Spell.l0_zero : ∀ y0 y1, refrainref5_Spell.l0 0 y0 y1 = none := fun _ _ => rfl
set_option maxRecDepth 100000 in
theorem refrainref5_Spell.l1_zero : ∀ y0 y1 y2, refrainref5_Spell.l1 0 y0 y1 y2 = none := fun _ _ _ => rfl
set_option maxRecDepth 100000 in
theorem refrainref5_Spell.j2_zero : ∀ y0 y1 y2, refrainref5_Spell.j2 0 y0 y1 y2 = none := fun _ _ _ => rfl
set_option maxRecDepth 100000 in
theorem refrainref5_Spell.mono_l : ∀ k, (∀ y0 y1, LeO (refrainref5_Spell.l0 k y0 y1) (refrainref5_Spell.l0 (k + 1) y0 y1)) ∧ (∀ y0 y1 y2, LeO (refrainref5_Spell.l1 k y0 y1 y2) (refrainref5_Spell.l1 (k + 1) y0 y1 y2)) ∧ (∀ y0 y1 y2, LeO (refrainref5_Spell.j2 k y0 y1 y2) (refrainref5_Spell.j2 (k + 1) y0 y1 y2))
  | 0 => ⟨fun _ _ r h => by (unfold refrainref5_Spell.l0 at h; cases h), fun _ _ _ r h => by (unfold refrainref5_Spell.l1 at h; cases h), fun _ _ _ r h => by (unfold refrainref5_Spell.j2 at h; cases h)⟩
  | k + 1 => by
    obtain ⟨ih0, ih1, ih2⟩ := refrainref5_Spell.mono_l k
    refine ⟨?_, ?_, ?_⟩
    · intro y0 y1
      unfold refrainref5_Spell.l0
      repeat' first
      | (with_reducible exact ih0 _ _)
      | (with_reducible exact ih1 _ _ _)
      | (with_reducible exact ih2 _ _ _)
      | (with_reducible exact refrainref5_can.mono _ _ _ _ _)
      | (with_reducible exact refrainref5_quoted.mono _ _)
      | (with_reducible exact LeO.refl _)
      | (with_reducible exact LeO.none _)
      | (with_reducible refine LeO.ite ?_ ?_)
      | (with_reducible refine LeO.bind ?_ (fun _ => ?_))
      | exact ih0 _ _
      | exact ih1 _ _ _
      | exact ih2 _ _ _
      | exact refrainref5_can.mono _ _ _ _ _
      | exact refrainref5_quoted.mono _ _
      | exact LeO.none _
      | refine LeO.ite ?_ ?_
      | refine LeO.bind ?_ (fun _ => ?_)
    · intro y0 y1 y2
      unfold refrainref5_Spell.l1
      repeat' first
      | (with_reducible exact ih0 _ _)
      | (with_reducible exact ih1 _ _ _)
      | (with_reducible exact ih2 _ _ _)
      | (with_reducible exact refrainref5_can.mono _ _ _ _ _)
      | (with_reducible exact refrainref5_quoted.mono _ _)
      | (with_reducible exact LeO.refl _)
      | (with_reducible exact LeO.none _)
      | (with_reducible refine LeO.ite ?_ ?_)
      | (with_reducible refine LeO.bind ?_ (fun _ => ?_))
      | exact ih0 _ _
      | exact ih1 _ _ _
      | exact ih2 _ _ _
      | exact refrainref5_can.mono _ _ _ _ _
      | exact refrainref5_quoted.mono _ _
      | exact LeO.none _
      | refine LeO.ite ?_ ?_
      | refine LeO.bind ?_ (fun _ => ?_)
    · intro y0 y1 y2
      unfold refrainref5_Spell.j2
      repeat' first
      | (with_reducible exact ih0 _ _)
      | (with_reducible exact ih1 _ _ _)
      | (with_reducible exact ih2 _ _ _)
      | (with_reducible exact refrainref5_can.mono _ _ _ _ _)
      | (with_reducible exact refrainref5_quoted.mono _ _)
      | (with_reducible exact LeO.refl _)
      | (with_reducible exact LeO.none _)
      | (with_reducible refine LeO.ite ?_ ?_)
      | (with_reducible refine LeO.bind ?_ (fun _ => ?_))
      | exact ih0 _ _
      | exact ih1 _ _ _
      | exact ih2 _ _ _
      | exact refrainref5_can.mono _ _ _ _ _
      | exact refrainref5_quoted.mono _ _
      | exact LeO.none _
      | refine LeO.ite ?_ ?_
      | refine LeO.bind ?_ (fun _ => ?_)
set_option maxRecDepth 100000 in
theorem refrainref5_Spell.mono : ∀ a0 k, LeO (refrainref5_Spell.f k a0) (refrainref5_Spell.f (k + 1) a0) := by
  intro a0 k
  obtain ⟨ih0, ih1, ih2⟩ := refrainref5_Spell.mono_l k
  unfold refrainref5_Spell.f
  repeat' first
      | (with_reducible exact ih0 _ _)
      | (with_reducible exact ih1 _ _ _)
      | (with_reducible exact ih2 _ _ _)
      | (with_reducible exact refrainref5_can.mono _ _ _ _ _)
      | (with_reducible exact refrainref5_quoted.mono _ _)
      | (with_reducible exact LeO.refl _)
      | (with_reducible exact LeO.none _)
      | (with_reducible refine LeO.ite ?_ ?_)
      | (with_reducible refine LeO.bind ?_ (fun _ => ?_))
      | exact ih0 _ _
      | exact ih1 _ _ _
      | exact ih2 _ _ _
      | exact refrainref5_can.mono _ _ _ _ _
      | exact refrainref5_quoted.mono _ _
      | exact LeO.none _
      | refine LeO.ite ?_ ?_
      | refine LeO.bind ?_ (fun _ => ?_)
set_option maxHeartbeats 8000000 in
set_option maxRecDepth 100000 in
theorem refrainref5_Spell.calls (k : Nat) (A0 : Option Addr) (c0 : Nat) (l0 : List (S44)) (r1 : ByteArray) (r2 : Int) (w : World) (hr0 : Kd.C k44 w A0 l0.length l0) (hc0 : l0.length ≤ c0) (h : refrainref5_Spell.f k l0 = some (r1, r2)) :
    Calls Tryd.prog 57 #[.slice A0 l0.length c0] w fun e w' => e = .returned (.tuple #[.string r1, .int .i64 r2]) ∧ Below w.heap.size w w' := by
  have hu44 := Tryd.underlying44
  have HR0 := Aside0.mk hr0
  have HC0 := Aside0.mk hc0
  clear hr0 hc0
  have HB := Aside0.mk (Below.refl w.heap.size w)
  have H : (refrainref5_Spell.l0 k l0 0) = some (r1, r2) := h
  clear h
  have H' := Aside0.mk H
  clear H
  go_enter Tryd.func57, Tryd.ntmps57
  go_wp2
  go_loopg [4] k (fun kq v4 w' => ∃ (x4_1 : Int), v4 = .int .i64 x4_1 ∧ Aside0 (refrainref5_Spell.l0 kq l0 x4_1 = some (r1, r2)) ∧ Aside0 (kq ≤ k) ∧ Aside0 (Below w.heap.size w w'))
  case atStart => exact ⟨(0), (by first | rfl | (simp; done) | (simp [*]; done) | (simp; unfold wrap64; omega) | (congr 1; (try rw [Bool.eq_iff_iff]); simp [List.isEmpty_iff]; done)), H', ⟨Nat.le_refl _⟩, ⟨hbT HB.out⟩⟩
  case round =>
    clear H'
    obtain ⟨x4_1, rfl, HA, HK1, HB⟩ := hrel
    cases gk with
    | zero => (have HA2 := HA.out; clear HA; revert HA2; rw [refrainref5_Spell.l0_zero]; intro h_; cases h_)
    | succ k1 =>
      have H := HA.out
      clear HA
      simp only [refrainref5_Spell.l0] at H
      by_cases c2 : x4_1 < (l0.length : Int)
      · rw [if_pos c2] at H
        have c2b0 : decide (x4_1 < (l0.length : Int)) = true := decide_eq_true c2
        clear c2
        by_cases c3 : 0 ≤ x4_1
        · rw [if_pos c3] at H
          have c3b0 : decide (0 ≤ x4_1) = true := decide_eq_true c3
          clear c3
          replace H := Option.bind_eq_some_iff.mp H
          obtain ⟨t646, A40, H⟩ := H
          replace H : (if t646 = true then (refrainref5_Spell.l0 k1 l0 (wrap64 (x4_1 + 1))) else (some ((⟨#[]⟩ : ByteArray), 1))) = some (r1, r2) := H
          have A4 := Aside0.mk A40
          clear A40
          by_cases c5 : t646 = true
          · subst c5
            have H1 : (refrainref5_Spell.l0 k1 l0 (wrap64 (x4_1 + 1))) = some (r1, r2) := by rw [if_pos rfl] at H; exact H
            clear H
            have H := H1
            clear H1
            have H' := Aside0.mk H
            clear H
            have p645 : 0 ≤ (x4_1 : Int) := of_decide_eq_true (by first | (with_reducible assumption) | assumption)
            have q645 : x4_1 < (l0.length : Int) := of_decide_eq_true (by first | (with_reducible assumption) | assumption)
            obtain ⟨ad645, e645, hx645_0, hx645_1, hx645_2⟩ := at_T44 HR0.out x4_1 p645 q645
            cases e645
            replace hx645_0 := (HB.out.cell (World.block_lt_of_cell? w _ hx645_0)).trans hx645_0; replace hx645_1 := (HB.out.cell (World.block_lt_of_cell? w _ hx645_1)).trans hx645_1; replace hx645_2 := (HB.out.cell (World.block_lt_of_cell? w _ hx645_2)).trans hx645_2
            replace p645 := eq_true p645
            replace q645 := eq_true q645
            go_wp2_with (first | ((with_reducible refine gate_callee (f := 69) rfl ?_); refine goesT (some 22) Tryd.func69 #[.agg #[.int .i64 ((rd_T44 l0 x4_1).f0), .string ((rd_T44 l0 x4_1).f1), .int .i64 ((rd_T44 l0 x4_1).f2)], .bool (x4_1 == (wrap64 ((l0.length : Int) - 1)))] ?_; (with_reducible refine (refrainref5_can.calls k1 ((rd_T44 l0 x4_1).f0) ((rd_T44 l0 x4_1).f1) ((rd_T44 l0 x4_1).f2) (x4_1 == (wrap64 ((l0.length : Int) - 1))) true _ A4.out).mono ?_); rintro e w6 ⟨rfl, hb⟩; refine ⟨_, rfl, ?_⟩; replace HB := bsA HB hb; (try clear hb); (try clear hb2); (try clear hk); (try clear hi)))
            go_roundg k1
            case measure => have := HK1.out; omega
            case rel => exact ⟨(wrap64 (x4_1 + 1)), (by first | rfl | (simp; done) | (simp [*]; done) | (simp; unfold wrap64; omega) | (congr 1; (try rw [Bool.eq_iff_iff]); simp [List.isEmpty_iff]; done)), H', ⟨by have := HK1.out; omega⟩, ⟨hbT HB.out⟩⟩
          · replace c5 := Bool.eq_false_iff.mpr c5
            subst c5
            have H1 : (some ((⟨#[]⟩ : ByteArray), 1)) = some (r1, r2) := by rw [if_neg (show ¬ (false = true) by decide)] at H; exact H
            clear H
            have H := H1
            clear H1
            simp only [Option.some.injEq, Prod.mk.injEq] at H
            obtain ⟨rfl, rfl⟩ := H
            have p645 : 0 ≤ (x4_1 : Int) := of_decide_eq_true (by first | (with_reducible assumption) | assumption)
            have q645 : x4_1 < (l0.length : Int) := of_decide_eq_true (by first | (with_reducible assumption) | assumption)
            obtain ⟨ad645, e645, hx645_0, hx645_1, hx645_2⟩ := at_T44 HR0.out x4_1 p645 q645
            cases e645
            replace hx645_0 := (HB.out.cell (World.block_lt_of_cell? w _ hx645_0)).trans hx645_0; replace hx645_1 := (HB.out.cell (World.block_lt_of_cell? w _ hx645_1)).trans hx645_1; replace hx645_2 := (HB.out.cell (World.block_lt_of_cell? w _ hx645_2)).trans hx645_2
            replace p645 := eq_true p645
            replace q645 := eq_true q645
            go_wp2_with (first | ((with_reducible refine gate_callee (f := 69) rfl ?_); refine goesT (some 22) Tryd.func69 #[.agg #[.int .i64 ((rd_T44 l0 x4_1).f0), .string ((rd_T44 l0 x4_1).f1), .int .i64 ((rd_T44 l0 x4_1).f2)], .bool (x4_1 == (wrap64 ((l0.length : Int) - 1)))] ?_; (with_reducible refine (refrainref5_can.calls k1 ((rd_T44 l0 x4_1).f0) ((rd_T44 l0 x4_1).f1) ((rd_T44 l0 x4_1).f2) (x4_1 == (wrap64 ((l0.length : Int) - 1))) false _ A4.out).mono ?_); rintro e w7 ⟨rfl, hb⟩; refine ⟨_, rfl, ?_⟩; replace HB := bsA HB hb; (try clear hb); (try clear hb2); (try clear hk); (try clear hi)))
            go_ret2
            exact ⟨by first | rfl | (simp [errW_none, errW_some] <;> rfl) | (simp [*, errW_none, errW_some] <;> rfl), hbT HB.out⟩
        · rw [if_neg c3] at H
          exact absurd H (by simp)
      · rw [if_neg c2] at H
        have c2b0 : decide (x4_1 < (l0.length : Int)) = false := decide_eq_false c2
        clear c2
        have H' := Aside0.mk H
        clear H
        go_wp2
        go_loopg [5, 6] k1 (fun kq v5 v6 w' => ∃ (x5_2 : List Int) (x6_2 : Int), v6 = .int .i64 x6_2 ∧ Aside0 (refrainref5_Spell.l1 kq l0 x5_2 x6_2 = some (r1, r2)) ∧ Aside0 (kq ≤ k1) ∧ Aside0 (Kd.R (Kd.int .u8) 5 w' w.heap.size (fun _ => True) v5 x5_2) ∧ Aside0 (Below w.heap.size w w'))
        case atStart => exact ⟨(([] : List Int)), (0), (by first | rfl | (simp; done) | (simp [*]; done) | (simp; unfold wrap64; omega) | (congr 1; (try rw [Bool.eq_iff_iff]); simp [List.isEmpty_iff]; done)), H', ⟨Nat.le_refl _⟩, ⟨by first | exact Kd.R_nil _ _ _ _ _ | exact Kd.N_nil _ _ _ _ _ | exact Kd.V_nil _ _ _ _ _ | exact Kd.Q_nil _ _ _ _ _ | exact Kd.S_nil _ _ _ _ _⟩, ⟨hbT HB.out⟩⟩
        case round =>
          clear H'
          try clear c2
          try clear c2b0
          try clear p2
          try clear c3
          try clear c3b0
          try clear c5
          try clear c6
          try clear p6
          try clear q6
          try clear hx6
          try clear hx645_0
          try clear hx645_1
          try clear hx645_2
          try clear p645
          try clear q645
          obtain ⟨x5_2, x6_2, rfl, HA, HK2, HO_5, HB⟩ := hrel
          cases gk with
          | zero => (have HA2 := HA.out; clear HA; revert HA2; rw [refrainref5_Spell.l1_zero]; intro h_; cases h_)
          | succ k2 =>
            have H := HA.out
            clear HA
            simp only [refrainref5_Spell.l1] at H
            by_cases c8 : x6_2 < (l0.length : Int)
            · rw [if_pos c8] at H
              have c8b0 : decide (x6_2 < (l0.length : Int)) = true := decide_eq_true c8
              clear c8
              by_cases c9 : 0 ≤ x6_2
              · rw [if_pos c9] at H
                have c9b0 : decide (0 ≤ x6_2) = true := decide_eq_true c9
                clear c9
                by_cases c10 : ((rd_T44 l0 x6_2).f0) = 5
                · rw [if_pos c10] at H
                  have c10b0 : (((rd_T44 l0 x6_2).f0) == 5) = true := beq_iff_eq.mpr c10
                  have c10b1 : (((rd_T44 l0 x6_2).f0) != 5) = false := bne_eq_false_iff_eq.mpr c10
                  clear c10
                  by_cases c11 : (x5_2.length : Int) > 4096
                  · rw [if_pos c11] at H
                    have c11b0 : decide (4096 < (x5_2.length : Int)) = true := decide_eq_true c11
                    have c11b1 : decide (4096 < x5_2.length) = true := decide_eq_true (by omega)
                    clear c11
                    simp only [Option.some.injEq, Prod.mk.injEq] at H
                    obtain ⟨rfl, rfl⟩ := H
                    have p647 : 0 ≤ (x6_2 : Int) := of_decide_eq_true (by first | (with_reducible assumption) | assumption)
                    have q647 : x6_2 < (l0.length : Int) := of_decide_eq_true (by first | (with_reducible assumption) | assumption)
                    obtain ⟨ad647, e647, hx647_0, hx647_1, hx647_2⟩ := at_T44 HR0.out x6_2 p647 q647
                    cases e647
                    replace hx647_0 := (HB.out.cell (World.block_lt_of_cell? w _ hx647_0)).trans hx647_0; replace hx647_1 := (HB.out.cell (World.block_lt_of_cell? w _ hx647_1)).trans hx647_1; replace hx647_2 := (HB.out.cell (World.block_lt_of_cell? w _ hx647_2)).trans hx647_2
                    replace p647 := eq_true p647
                    replace q647 := eq_true q647
                    obtain ⟨Ao12, co12, eo12⟩ := Kd.R_slice HO_5.out
                    subst eo12
                    go_wp2
                    go_ret2
                    exact ⟨by first | rfl | (simp [errW_none, errW_some] <;> rfl) | (simp [*, errW_none, errW_some] <;> rfl), hbT HB.out⟩
                  · rw [if_neg c11] at H
                    have c11b0 : decide (4096 < (x5_2.length : Int)) = false := decide_eq_false c11
                    have c11b1 : decide (4096 < x5_2.length) = false := decide_eq_false (by omega)
                    clear c11
                    simp only [Option.some.injEq, Prod.mk.injEq] at H
                    obtain ⟨rfl, rfl⟩ := H
                    have p647 : 0 ≤ (x6_2 : Int) := of_decide_eq_true (by first | (with_reducible assumption) | assumption)
                    have q647 : x6_2 < (l0.length : Int) := of_decide_eq_true (by first | (with_reducible assumption) | assumption)
                    obtain ⟨ad647, e647, hx647_0, hx647_1, hx647_2⟩ := at_T44 HR0.out x6_2 p647 q647
                    cases e647
                    replace hx647_0 := (HB.out.cell (World.block_lt_of_cell? w _ hx647_0)).trans hx647_0; replace hx647_1 := (HB.out.cell (World.block_lt_of_cell? w _ hx647_1)).trans hx647_1; replace hx647_2 := (HB.out.cell (World.block_lt_of_cell? w _ hx647_2)).trans hx647_2
                    replace p647 := eq_true p647
                    replace q647 := eq_true q647
                    obtain ⟨Ao13, co13, eo13⟩ := Kd.R_slice HO_5.out
                    subst eo13
                    have hcv14 := own_string (P := Tryd.prog) Tryd.underlying39 Tryd.underlying5 Tryd.underlying9 (Kd.own_of_R HO_5.out)
                    go_wp2
                    go_ret2
                    exact ⟨by first | rfl | (simp [errW_none, errW_some] <;> rfl) | (simp [*, errW_none, errW_some] <;> rfl), hbT HB.out⟩
                · rw [if_neg c10] at H
                  have c10b0 : (((rd_T44 l0 x6_2).f0) == 5) = false := beq_eq_false_iff_ne.mpr c10
                  have c10b1 : (((rd_T44 l0 x6_2).f0) != 5) = true := bne_iff_ne.mpr c10
                  have HC15 := Aside0.mk H
                  clear H
                  have p647 : 0 ≤ (x6_2 : Int) := of_decide_eq_true (by first | (with_reducible assumption) | assumption)
                  have q647 : x6_2 < (l0.length : Int) := of_decide_eq_true (by first | (with_reducible assumption) | assumption)
                  obtain ⟨ad647, e647, hx647_0, hx647_1, hx647_2⟩ := at_T44 HR0.out x6_2 p647 q647
                  cases e647
                  replace hx647_0 := (HB.out.cell (World.block_lt_of_cell? w _ hx647_0)).trans hx647_0; replace hx647_1 := (HB.out.cell (World.block_lt_of_cell? w _ hx647_1)).trans hx647_1; replace hx647_2 := (HB.out.cell (World.block_lt_of_cell? w _ hx647_2)).trans hx647_2
                  replace p647 := eq_true p647
                  replace q647 := eq_true q647
                  go_upto_if 37 with (fail)
                  go_cut [5] (fun v5 wc => ∃ (kq : Nat) (x5_14 : List Int), Aside0 (refrainref5_Spell.j2 kq l0 x5_14 x6_2 = some (r1, r2)) ∧ Aside0 (kq ≤ k2) ∧ Aside0 (Kd.R (Kd.int .u8) 5 wc w.heap.size (fun _ => True) v5 x5_14) ∧ Aside0 (Below w.heap.size w wc))
                  case first =>
                    have H := HC15.out
                    clear HC15
                    by_cases c16 : x6_2 > 0
                    · rw [if_pos c16] at H
                      have c16b0 : decide (0 < x6_2) = true := decide_eq_true c16
                      clear c16
                      (first | rw [c16b0] | (simp only [i64_w, i32_w, IntKind.wrap_u8, IntKind.wrap_u16, IntKind.wrap_u32]; rw [c16b0]) | skip)
                      by_cases c17 : x5_2.length < 140737488355328
                      · rw [if_pos c17] at H
                        have LMc17 := Aside0.mk c17
                        clear c17
                        obtain ⟨y648, hy648⟩ : ∃ y_ : List Int, y_ = (x5_2 ++ [32]) := ⟨_, rfl⟩
                        replace H : (refrainref5_Spell.j2 k2 l0 y648 x6_2) = some (r1, r2) := by first | (rw [hy648]; with_reducible exact H) | (have H2_ := (Option.bind_some _ _).symm.trans H; rw [hy648]; with_reducible exact H2_) | (have H2_ := (Option.bind_some _ _).symm.trans H; with_reducible exact H2_) | with_reducible exact H | (rw [hy648]; exact H) | exact H
                        have Ny648 := Aside0.mk hy648
                        clear hy648
                        have H' := Aside0.mk H
                        clear H
                        go_wp2_with (first | ((with_reducible refine gate_builtin (b := .append) (xs := #[.tmp 38, .tmp 39]) rfl ?_); at_builtin; refine Kd.R_append (Kd.int .u8) (w0 := w) w.heap.size rfl (.tmp 38) (.tmp 39) 39 5 (.int .u8 0) 1 rfl Tryd.underlying39 info5 rfl (by decide) (by omega) u5 x5_2 32 [.int .u8 32] (fun _ => True) (fun _ => False) rfl rfl ?aP (fun _ hk => hk.elim) ?aF ?aO ?aB ?aS ?aL ?_; (case aP => exact rfl); (case aB => exact (hbT HB.out)); (case aF => exact (fun _ _ => trivial)); (case aO => exact (by (with_reducible repeat (first | apply Kd.R_alloc | apply Kd.R_drewN | apply Kd.R_drew)); exact HO_5.out)); (case aS => exact (below_size (hbT HB.out))); (case aL => have := LMc17.out; omega); intro v649 w18 ho hb hg hat; rw [← Ny648.out] at ho; have n0_ := Aside0.mk (hb); have n1_ := Aside0.mk (ho); clear HB; clear HO_5; have HB := n0_; have HO650 := n1_; clear n0_ n1_; clear ho hb hg hat))
                        go_meet
                        case rel => exact ⟨_, (y648), H', ⟨by have := HK1.out; have := HK2.out; first | omega | exact Nat.le_refl _⟩, ⟨by (with_reducible repeat (first | apply Kd.R_alloc | apply Kd.R_drewN | apply Kd.R_drew)); exact HO650.out⟩, ⟨hbT HB.out⟩⟩
                      · rw [if_neg c17] at H
                        exact absurd H (by simp)
                    · rw [if_neg c16] at H
                      have c16b0 : decide (0 < x6_2) = false := decide_eq_false c16
                      clear c16
                      (first | rw [c16b0] | (simp only [i64_w, i32_w, IntKind.wrap_u8, IntKind.wrap_u16, IntKind.wrap_u32]; rw [c16b0]) | skip)
                      have H' := Aside0.mk H
                      clear H
                      go_wp2
                      go_meet
                      case rel => exact ⟨_, (x5_2), H', ⟨by have := HK1.out; have := HK2.out; first | omega | exact Nat.le_refl _⟩, ⟨by (with_reducible repeat (first | apply Kd.R_alloc | apply Kd.R_drewN | apply Kd.R_drew)); exact HO_5.out⟩, ⟨hbT HB.out⟩⟩
                  case rest =>
                    clear HC15
                    try clear c1
                    try clear hcv1
                    try clear c2
                    try clear c2b0
                    try clear p2
                    try clear c3
                    try clear c3b0
                    try clear c5
                    try clear c6
                    try clear p6
                    try clear q6
                    try clear hx6
                    try clear c8
                    try clear c8b0
                    try clear c9
                    try clear c9b0
                    try clear c10
                    try clear c10b0
                    try clear c10b1
                    try clear c11
                    try clear c11b0
                    try clear c11b1
                    try clear hcv14
                    try clear c16
                    try clear c16b0
                    try clear c17
                    try clear hx645_0
                    try clear hx645_1
                    try clear hx645_2
                    try clear hx647_0
                    try clear hx647_1
                    try clear hx647_2
                    try clear p2
                    try clear p6
                    try clear p645
                    try clear p647
                    try clear q6
                    try clear q645
                    try clear q647
                    obtain ⟨kq, x5_14, HA, HJ14, HO_5, HB⟩ := hcut
                    cases kq with
                    | zero => (have HA2 := HA.out; clear HA; revert HA2; rw [refrainref5_Spell.j2_zero]; intro h_; cases h_)
                    | succ kj14 =>
                      have H := HA.out
                      clear HA
                      simp only [refrainref5_Spell.j2] at H
                      by_cases c19 : 0 ≤ x6_2
                      · rw [if_pos c19] at H
                        have c19b0 : decide (0 ≤ x6_2) = true := decide_eq_true c19
                        clear c19
                        by_cases c20 : x6_2 < (l0.length : Int)
                        · rw [if_pos c20] at H
                          have c20b0 : decide (x6_2 < (l0.length : Int)) = true := decide_eq_true c20
                          clear c20
                          by_cases c21 : (wrap64 ((x5_14.length : Int) + (((rd_T44 l0 x6_2).f1).size : Int))) > 4096
                          · rw [if_pos c21] at H
                            have c21b0 : decide (4096 < (wrap64 ((x5_14.length : Int) + (((rd_T44 l0 x6_2).f1).size : Int)))) = true := decide_eq_true c21
                            clear c21
                            simp only [Option.some.injEq, Prod.mk.injEq] at H
                            obtain ⟨rfl, rfl⟩ := H
                            obtain ⟨Ao22, co22, eo22⟩ := Kd.R_slice HO_5.out
                            subst eo22
                            have p651 : 0 ≤ (x6_2 : Int) := of_decide_eq_true (by first | (with_reducible assumption) | assumption)
                            have q651 : x6_2 < (l0.length : Int) := of_decide_eq_true (by first | (with_reducible assumption) | assumption)
                            obtain ⟨ad651, e651, hx651_0, hx651_1, hx651_2⟩ := at_T44 HR0.out x6_2 p651 q651
                            obtain rfl : ad647 = ad651 := (by injection e651)
                            replace hx651_0 := (HB.out.cell (World.block_lt_of_cell? w _ hx651_0)).trans hx651_0; replace hx651_1 := (HB.out.cell (World.block_lt_of_cell? w _ hx651_1)).trans hx651_1; replace hx651_2 := (HB.out.cell (World.block_lt_of_cell? w _ hx651_2)).trans hx651_2
                            replace p651 := eq_true p651
                            replace q651 := eq_true q651
                            go_wp2
                            go_ret2
                            exact ⟨by first | rfl | (simp [errW_none, errW_some] <;> rfl) | (simp [*, errW_none, errW_some] <;> rfl), hbT HB.out⟩
                          · rw [if_neg c21] at H
                            have c21b0 : decide (4096 < (wrap64 ((x5_14.length : Int) + (((rd_T44 l0 x6_2).f1).size : Int)))) = false := decide_eq_false c21
                            clear c21
                            by_cases c23 : ((rd_T44 l0 x6_2).f0) = 3
                            · rw [if_pos c23] at H
                              have c23b0 : (((rd_T44 l0 x6_2).f0) == 3) = true := beq_iff_eq.mpr c23
                              have c23b1 : (((rd_T44 l0 x6_2).f0) != 3) = false := bne_eq_false_iff_eq.mpr c23
                              clear c23
                              replace H := Option.bind_eq_some_iff.mp H
                              obtain ⟨t654, A240, H⟩ := H
                              replace H : (if x5_14.length + t654.size < 140737488355328 then (refrainref5_Spell.l1 kj14 l0 (x5_14 ++ bytesOf t654) (wrap64 (x6_2 + 1))) else (none)) = some (r1, r2) := H
                              have A24 := Aside0.mk A240
                              clear A240
                              by_cases c25 : x5_14.length + t654.size < 140737488355328
                              · rw [if_pos c25] at H
                                have LMc25 := Aside0.mk c25
                                clear c25
                                obtain ⟨y655, hy655⟩ : ∃ y_ : List Int, y_ = (x5_14 ++ bytesOf t654) := ⟨_, rfl⟩
                                replace H : (refrainref5_Spell.l1 kj14 l0 y655 (wrap64 (x6_2 + 1))) = some (r1, r2) := by first | (rw [hy655]; with_reducible exact H) | (have H2_ := (Option.bind_some _ _).symm.trans H; rw [hy655]; with_reducible exact H2_) | (have H2_ := (Option.bind_some _ _).symm.trans H; with_reducible exact H2_) | with_reducible exact H | (rw [hy655]; exact H) | exact H
                                have Ny655 := Aside0.mk hy655
                                clear hy655
                                have H' := Aside0.mk H
                                clear H
                                obtain ⟨Ao26, co26, eo26⟩ := Kd.R_slice HO_5.out
                                subst eo26
                                have p651 : 0 ≤ (x6_2 : Int) := of_decide_eq_true (by first | (with_reducible assumption) | assumption)
                                have q651 : x6_2 < (l0.length : Int) := of_decide_eq_true (by first | (with_reducible assumption) | assumption)
                                obtain ⟨ad651, e651, hx651_0, hx651_1, hx651_2⟩ := at_T44 HR0.out x6_2 p651 q651
                                obtain rfl : ad647 = ad651 := (by injection e651)
                                replace hx651_0 := (HB.out.cell (World.block_lt_of_cell? w _ hx651_0)).trans hx651_0; replace hx651_1 := (HB.out.cell (World.block_lt_of_cell? w _ hx651_1)).trans hx651_1; replace hx651_2 := (HB.out.cell (World.block_lt_of_cell? w _ hx651_2)).trans hx651_2
                                replace p651 := eq_true p651
                                replace q651 := eq_true q651
                                have p652 : 0 ≤ (x6_2 : Int) := of_decide_eq_true (by first | (with_reducible assumption) | assumption)
                                have q652 : x6_2 < (l0.length : Int) := of_decide_eq_true (by first | (with_reducible assumption) | assumption)
                                obtain ⟨ad652, e652, hx652_0, hx652_1, hx652_2⟩ := at_T44 HR0.out x6_2 p652 q652
                                obtain rfl : ad647 = ad652 := (by injection e652)
                                replace hx652_0 := (HB.out.cell (World.block_lt_of_cell? w _ hx652_0)).trans hx652_0; replace hx652_1 := (HB.out.cell (World.block_lt_of_cell? w _ hx652_1)).trans hx652_1; replace hx652_2 := (HB.out.cell (World.block_lt_of_cell? w _ hx652_2)).trans hx652_2
                                replace p652 := eq_true p652
                                replace q652 := eq_true q652
                                have p653 : 0 ≤ (x6_2 : Int) := of_decide_eq_true (by first | (with_reducible assumption) | assumption)
                                have q653 : x6_2 < (l0.length : Int) := of_decide_eq_true (by first | (with_reducible assumption) | assumption)
                                obtain ⟨ad653, e653, hx653_0, hx653_1, hx653_2⟩ := at_T44 HR0.out x6_2 p653 q653
                                obtain rfl : ad647 = ad653 := (by injection e653)
                                replace hx653_0 := (HB.out.cell (World.block_lt_of_cell? w _ hx653_0)).trans hx653_0; replace hx653_1 := (HB.out.cell (World.block_lt_of_cell? w _ hx653_1)).trans hx653_1; replace hx653_2 := (HB.out.cell (World.block_lt_of_cell? w _ hx653_2)).trans hx653_2
                                replace p653 := eq_true p653
                                replace q653 := eq_true q653
                                go_wp2_with (first | ((with_reducible refine gate_callee (f := 70) rfl ?_); refine goesT (some 63) Tryd.func70 #[.string ((rd_T44 l0 x6_2).f1)] ?_; (with_reducible refine (refrainref5_quoted.calls kj14 ((rd_T44 l0 x6_2).f1) t654 _ A24.out).mono ?_); rintro e w27 ⟨rfl, hb⟩; refine ⟨_, rfl, ?_⟩; replace HO_5 := Aside0.mk (Kd.R_below (by (with_reducible repeat (first | apply Kd.R_alloc | apply Kd.R_drewN | apply Kd.R_drew)); exact HO_5.out) hb); replace HB := bsA HB hb; (try clear hb); (try clear hb2); (try clear hk); (try clear hi)) | (at_builtin; refine print_append_str (w0 := w) w.heap.size rfl (.tmp 57) _ 39 9 5 rfl Tryd.underlying39 Tryd.underlying9 info5 (.slice Ao26 x5_14.length co26) x5_14 t654 rfl rfl ?aO ?aB ?aS ?aL ?_; (case aB => exact (hbT HB.out)); (case aO => exact (Kd.own_of_R (by (with_reducible repeat (first | apply Kd.R_alloc | apply Kd.R_drewN | apply Kd.R_drew)); exact HO_5.out))); (case aS => exact (below_size (hbT HB.out))); (case aL => have := LMc25.out; omega); intro v656 w28 ho0 hb hg; have ho := Kd.R_of_own (h1 := fun _ => rfl) (ok := fun _ => True) ho0 (fun _ _ => trivial); clear ho0; have hat := True.intro; rw [← Ny655.out] at ho; change Kd.R (Kd.int .u8) 5 w28 w.heap.size (fun _ => True) v656 y655 at ho; have n0_ := Aside0.mk (hb); have n1_ := Aside0.mk (ho); clear HB; clear HO_5; have HB := n0_; have HO657 := n1_; clear n0_ n1_; clear ho hb hg hat))
                                go_roundg kj14
                                case measure => have := HK1.out; have := HK2.out; have := HJ14.out; omega
                                case rel => exact ⟨(y655), (wrap64 (x6_2 + 1)), (by first | rfl | (simp; done) | (simp [*]; done) | (simp; unfold wrap64; omega) | (congr 1; (try rw [Bool.eq_iff_iff]); simp [List.isEmpty_iff]; done)), H', ⟨by have := HK1.out; have := HK2.out; have := HJ14.out; omega⟩, ⟨by (with_reducible repeat (first | apply Kd.R_alloc | apply Kd.R_drewN | apply Kd.R_drew)); exact HO657.out⟩, ⟨hbT HB.out⟩⟩
                              · rw [if_neg c25] at H
                                exact absurd H (by simp)
                            · rw [if_neg c23] at H
                              have c23b0 : (((rd_T44 l0 x6_2).f0) == 3) = false := beq_eq_false_iff_ne.mpr c23
                              have c23b1 : (((rd_T44 l0 x6_2).f0) != 3) = true := bne_iff_ne.mpr c23
                              by_cases c29 : x5_14.length + ((rd_T44 l0 x6_2).f1).size < 140737488355328
                              · rw [if_pos c29] at H
                                have LMc29 := Aside0.mk c29
                                clear c29
                                obtain ⟨y659, hy659⟩ : ∃ y_ : List Int, y_ = (x5_14 ++ bytesOf ((rd_T44 l0 x6_2).f1)) := ⟨_, rfl⟩
                                replace H : (refrainref5_Spell.l1 kj14 l0 y659 (wrap64 (x6_2 + 1))) = some (r1, r2) := by first | (rw [hy659]; with_reducible exact H) | (have H2_ := (Option.bind_some _ _).symm.trans H; rw [hy659]; with_reducible exact H2_) | (have H2_ := (Option.bind_some _ _).symm.trans H; with_reducible exact H2_) | with_reducible exact H | (rw [hy659]; exact H) | exact H
                                have Ny659 := Aside0.mk hy659
                                clear hy659
                                have H' := Aside0.mk H
                                clear H
                                obtain ⟨Ao30, co30, eo30⟩ := Kd.R_slice HO_5.out
                                subst eo30
                                have p651 : 0 ≤ (x6_2 : Int) := of_decide_eq_true (by first | (with_reducible assumption) | assumption)
                                have q651 : x6_2 < (l0.length : Int) := of_decide_eq_true (by first | (with_reducible assumption) | assumption)
                                obtain ⟨ad651, e651, hx651_0, hx651_1, hx651_2⟩ := at_T44 HR0.out x6_2 p651 q651
                                obtain rfl : ad647 = ad651 := (by injection e651)
                                replace hx651_0 := (HB.out.cell (World.block_lt_of_cell? w _ hx651_0)).trans hx651_0; replace hx651_1 := (HB.out.cell (World.block_lt_of_cell? w _ hx651_1)).trans hx651_1; replace hx651_2 := (HB.out.cell (World.block_lt_of_cell? w _ hx651_2)).trans hx651_2
                                replace p651 := eq_true p651
                                replace q651 := eq_true q651
                                have p652 : 0 ≤ (x6_2 : Int) := of_decide_eq_true (by first | (with_reducible assumption) | assumption)
                                have q652 : x6_2 < (l0.length : Int) := of_decide_eq_true (by first | (with_reducible assumption) | assumption)
                                obtain ⟨ad652, e652, hx652_0, hx652_1, hx652_2⟩ := at_T44 HR0.out x6_2 p652 q652
                                obtain rfl : ad647 = ad652 := (by injection e652)
                                replace hx652_0 := (HB.out.cell (World.block_lt_of_cell? w _ hx652_0)).trans hx652_0; replace hx652_1 := (HB.out.cell (World.block_lt_of_cell? w _ hx652_1)).trans hx652_1; replace hx652_2 := (HB.out.cell (World.block_lt_of_cell? w _ hx652_2)).trans hx652_2
                                replace p652 := eq_true p652
                                replace q652 := eq_true q652
                                have p658 : 0 ≤ (x6_2 : Int) := of_decide_eq_true (by first | (with_reducible assumption) | assumption)
                                have q658 : x6_2 < (l0.length : Int) := of_decide_eq_true (by first | (with_reducible assumption) | assumption)
                                obtain ⟨ad658, e658, hx658_0, hx658_1, hx658_2⟩ := at_T44 HR0.out x6_2 p658 q658
                                obtain rfl : ad647 = ad658 := (by injection e658)
                                replace hx658_0 := (HB.out.cell (World.block_lt_of_cell? w _ hx658_0)).trans hx658_0; replace hx658_1 := (HB.out.cell (World.block_lt_of_cell? w _ hx658_1)).trans hx658_1; replace hx658_2 := (HB.out.cell (World.block_lt_of_cell? w _ hx658_2)).trans hx658_2
                                replace p658 := eq_true p658
                                replace q658 := eq_true q658
                                go_wp2_with (first | (at_builtin; refine print_append_str (w0 := w) w.heap.size rfl (.tmp 65) _ 39 9 5 rfl Tryd.underlying39 Tryd.underlying9 info5 (.slice Ao30 x5_14.length co30) x5_14 ((rd_T44 l0 x6_2).f1) rfl rfl ?aO ?aB ?aS ?aL ?_; (case aB => exact (hbT HB.out)); (case aO => exact (Kd.own_of_R (by (with_reducible repeat (first | apply Kd.R_alloc | apply Kd.R_drewN | apply Kd.R_drew)); exact HO_5.out))); (case aS => exact (below_size (hbT HB.out))); (case aL => have := LMc29.out; omega); intro v660 w31 ho0 hb hg; have ho := Kd.R_of_own (h1 := fun _ => rfl) (ok := fun _ => True) ho0 (fun _ _ => trivial); clear ho0; have hat := True.intro; rw [← Ny659.out] at ho; change Kd.R (Kd.int .u8) 5 w31 w.heap.size (fun _ => True) v660 y659 at ho; have n0_ := Aside0.mk (hb); have n1_ := Aside0.mk (ho); clear HB; clear HO_5; have HB := n0_; have HO661 := n1_; clear n0_ n1_; clear ho hb hg hat))
                                go_roundg kj14
                                case measure => have := HK1.out; have := HK2.out; have := HJ14.out; omega
                                case rel => exact ⟨(y659), (wrap64 (x6_2 + 1)), (by first | rfl | (simp; done) | (simp [*]; done) | (simp; unfold wrap64; omega) | (congr 1; (try rw [Bool.eq_iff_iff]); simp [List.isEmpty_iff]; done)), H', ⟨by have := HK1.out; have := HK2.out; have := HJ14.out; omega⟩, ⟨by (with_reducible repeat (first | apply Kd.R_alloc | apply Kd.R_drewN | apply Kd.R_drew)); exact HO661.out⟩, ⟨hbT HB.out⟩⟩
                              · rw [if_neg c29] at H
                                exact absurd H (by simp)
                        · rw [if_neg c20] at H
                          exact absurd H (by simp)
                      · rw [if_neg c19] at H
                        exact absurd H (by simp)
              · rw [if_neg c9] at H
                exact absurd H (by simp)
            · rw [if_neg c8] at H
              have c8b0 : decide (x6_2 < (l0.length : Int)) = false := decide_eq_false c8
              clear c8
              by_cases c32 : (x5_2.length : Int) > 4096
              · rw [if_pos c32] at H
                have c32b0 : decide (4096 < (x5_2.length : Int)) = true := decide_eq_true c32
                have c32b1 : decide (4096 < x5_2.length) = true := decide_eq_true (by omega)
                clear c32
                simp only [Option.some.injEq, Prod.mk.injEq] at H
                obtain ⟨rfl, rfl⟩ := H
                obtain ⟨Ao33, co33, eo33⟩ := Kd.R_slice HO_5.out
                subst eo33
                go_wp2
                go_ret2
                exact ⟨by first | rfl | (simp [errW_none, errW_some] <;> rfl) | (simp [*, errW_none, errW_some] <;> rfl), hbT HB.out⟩
              · rw [if_neg c32] at H
                have c32b0 : decide (4096 < (x5_2.length : Int)) = false := decide_eq_false c32
                have c32b1 : decide (4096 < x5_2.length) = false := decide_eq_false (by omega)
                clear c32
                simp only [Option.some.injEq, Prod.mk.injEq] at H
                obtain ⟨rfl, rfl⟩ := H
                obtain ⟨Ao34, co34, eo34⟩ := Kd.R_slice HO_5.out
                subst eo34
                have hcv35 := own_string (P := Tryd.prog) Tryd.underlying39 Tryd.underlying5 Tryd.underlying9 (Kd.own_of_R HO_5.out)
                go_wp2
                go_ret2
                exact ⟨by first | rfl | (simp [errW_none, errW_some] <;> rfl) | (simp [*, errW_none, errW_some] <;> rfl), hbT HB.out⟩

/-! ### refrainref5_words: function 72 -/
def refrainref5_words.f  : Option (List ByteArray) := some (([(⟨#[80, 65, 84, 84, 69, 82, 78]⟩ : ByteArray), (⟨#[83, 69, 81]⟩ : ByteArray), (⟨#[80, 65, 82, 84, 73, 84, 73, 79, 78]⟩ : ByteArray), (⟨#[66, 89]⟩ : ByteArray), (⟨#[87, 72, 69, 82, 69]⟩ : ByteArray), (⟨#[87, 73, 84, 72, 73, 78]⟩ : ByteArray), (⟨#[82, 69, 84, 85, 82, 78]⟩ : ByteArray), (⟨#[65, 78, 68]⟩ : ByteArray), (⟨#[79, 82]⟩ : ByteArray), (⟨#[78, 79, 84]⟩ : ByteArray), (⟨#[84, 82, 85, 69]⟩ : ByteArray), (⟨#[70, 65, 76, 83, 69]⟩ : ByteArray), (⟨#[84, 89, 80, 69]⟩ : ByteArray), (⟨#[73, 78, 84]⟩ : ByteArray), (⟨#[83, 84, 82]⟩ : ByteArray), (⟨#[66, 79, 79, 76]⟩ : ByteArray)] : List ByteArray))
set_option maxHeartbeats 8000000 in
set_option maxRecDepth 100000 in
theorem refrainref5_words.calls  (r : List ByteArray) (w : World) (h : refrainref5_words.f  = some r) :
    Calls Tryd.prog 72 #[] w fun e w' => ∃ v0_ : Value, e = .returned (v0_) ∧ Kd.R Kd.string 9 w' w.heap.size (fun _ => True) v0_ r ∧ Below w.heap.size w w' := by
  have HB := Aside0.mk (Below.refl w.heap.size w)
  have H : (some (([(⟨#[80, 65, 84, 84, 69, 82, 78]⟩ : ByteArray), (⟨#[83, 69, 81]⟩ : ByteArray), (⟨#[80, 65, 82, 84, 73, 84, 73, 79, 78]⟩ : ByteArray), (⟨#[66, 89]⟩ : ByteArray), (⟨#[87, 72, 69, 82, 69]⟩ : ByteArray), (⟨#[87, 73, 84, 72, 73, 78]⟩ : ByteArray), (⟨#[82, 69, 84, 85, 82, 78]⟩ : ByteArray), (⟨#[65, 78, 68]⟩ : ByteArray), (⟨#[79, 82]⟩ : ByteArray), (⟨#[78, 79, 84]⟩ : ByteArray), (⟨#[84, 82, 85, 69]⟩ : ByteArray), (⟨#[70, 65, 76, 83, 69]⟩ : ByteArray), (⟨#[84, 89, 80, 69]⟩ : ByteArray), (⟨#[73, 78, 84]⟩ : ByteArray), (⟨#[83, 84, 82]⟩ : ByteArray), (⟨#[66, 79, 79, 76]⟩ : ByteArray)] : List ByteArray))) = some r := h
  clear h
  obtain ⟨y665, hy665⟩ : ∃ y_ : List ByteArray, y_ = (([(⟨#[80, 65, 84, 84, 69, 82, 78]⟩ : ByteArray), (⟨#[83, 69, 81]⟩ : ByteArray), (⟨#[80, 65, 82, 84, 73, 84, 73, 79, 78]⟩ : ByteArray), (⟨#[66, 89]⟩ : ByteArray), (⟨#[87, 72, 69, 82, 69]⟩ : ByteArray), (⟨#[87, 73, 84, 72, 73, 78]⟩ : ByteArray), (⟨#[82, 69, 84, 85, 82, 78]⟩ : ByteArray), (⟨#[65, 78, 68]⟩ : ByteArray), (⟨#[79, 82]⟩ : ByteArray), (⟨#[78, 79, 84]⟩ : ByteArray), (⟨#[84, 82, 85, 69]⟩ : ByteArray), (⟨#[70, 65, 76, 83, 69]⟩ : ByteArray), (⟨#[84, 89, 80, 69]⟩ : ByteArray), (⟨#[73, 78, 84]⟩ : ByteArray), (⟨#[83, 84, 82]⟩ : ByteArray), (⟨#[66, 79, 79, 76]⟩ : ByteArray)] : List ByteArray)) := ⟨_, rfl⟩
  replace H : (some y665) = some r := by first | (rw [hy665]; with_reducible exact H) | (have H2_ := (Option.bind_some _ _).symm.trans H; rw [hy665]; with_reducible exact H2_) | (have H2_ := (Option.bind_some _ _).symm.trans H; with_reducible exact H2_) | with_reducible exact H | (rw [hy665]; exact H) | exact H
  have Ny665 := Aside0.mk hy665
  clear hy665
  obtain rfl := Option.some.inj H
  go_enter Tryd.func72, Tryd.ntmps72
  go_wp2_with (first | ((with_reducible refine gate_dst (N := 1) rfl ?_); refine Kd.R_lit Kd.string _ 9 ?hg (N := 1) ?hd (xs := ([(⟨#[80, 65, 84, 84, 69, 82, 78]⟩ : ByteArray), (⟨#[83, 69, 81]⟩ : ByteArray), (⟨#[80, 65, 82, 84, 73, 84, 73, 79, 78]⟩ : ByteArray), (⟨#[66, 89]⟩ : ByteArray), (⟨#[87, 72, 69, 82, 69]⟩ : ByteArray), (⟨#[87, 73, 84, 72, 73, 78]⟩ : ByteArray), (⟨#[82, 69, 84, 85, 82, 78]⟩ : ByteArray), (⟨#[65, 78, 68]⟩ : ByteArray), (⟨#[79, 82]⟩ : ByteArray), (⟨#[78, 79, 84]⟩ : ByteArray), (⟨#[84, 82, 85, 69]⟩ : ByteArray), (⟨#[70, 65, 76, 83, 69]⟩ : ByteArray), (⟨#[84, 89, 80, 69]⟩ : ByteArray), (⟨#[73, 78, 84]⟩ : ByteArray), (⟨#[83, 84, 82]⟩ : ByteArray), (⟨#[66, 79, 79, 76]⟩ : ByteArray)] : List ByteArray)) (inner := [.string (⟨#[80, 65, 84, 84, 69, 82, 78]⟩ : ByteArray), .string (⟨#[83, 69, 81]⟩ : ByteArray), .string (⟨#[80, 65, 82, 84, 73, 84, 73, 79, 78]⟩ : ByteArray), .string (⟨#[66, 89]⟩ : ByteArray), .string (⟨#[87, 72, 69, 82, 69]⟩ : ByteArray), .string (⟨#[87, 73, 84, 72, 73, 78]⟩ : ByteArray), .string (⟨#[82, 69, 84, 85, 82, 78]⟩ : ByteArray), .string (⟨#[65, 78, 68]⟩ : ByteArray), .string (⟨#[79, 82]⟩ : ByteArray), .string (⟨#[78, 79, 84]⟩ : ByteArray), .string (⟨#[84, 82, 85, 69]⟩ : ByteArray), .string (⟨#[70, 65, 76, 83, 69]⟩ : ByteArray), .string (⟨#[84, 89, 80, 69]⟩ : ByteArray), .string (⟨#[73, 78, 84]⟩ : ByteArray), .string (⟨#[83, 84, 82]⟩ : ByteArray), .string (⟨#[66, 79, 79, 76]⟩ : ByteArray)]) (ok := fun _ => True) (okp := fun _ => True) ?hr ?hp (fun _ hk => hk) trivial (Below.refl _ _) (Nat.le_refl _) (by simp) ?_; (case hd => rfl); (case hg => rfl); (case hr => first | (go_simp; done) | (go_simp; rfl)); (case hp => exact (Reps.one (show Kd.M Kd.string _ _ _ (⟨#[80, 65, 84, 84, 69, 82, 78]⟩ : ByteArray) [.string (⟨#[80, 65, 84, 84, 69, 82, 78]⟩ : ByteArray)] from rfl) (Reps.one (show Kd.M Kd.string _ _ _ (⟨#[83, 69, 81]⟩ : ByteArray) [.string (⟨#[83, 69, 81]⟩ : ByteArray)] from rfl) (Reps.one (show Kd.M Kd.string _ _ _ (⟨#[80, 65, 82, 84, 73, 84, 73, 79, 78]⟩ : ByteArray) [.string (⟨#[80, 65, 82, 84, 73, 84, 73, 79, 78]⟩ : ByteArray)] from rfl) (Reps.one (show Kd.M Kd.string _ _ _ (⟨#[66, 89]⟩ : ByteArray) [.string (⟨#[66, 89]⟩ : ByteArray)] from rfl) (Reps.one (show Kd.M Kd.string _ _ _ (⟨#[87, 72, 69, 82, 69]⟩ : ByteArray) [.string (⟨#[87, 72, 69, 82, 69]⟩ : ByteArray)] from rfl) (Reps.one (show Kd.M Kd.string _ _ _ (⟨#[87, 73, 84, 72, 73, 78]⟩ : ByteArray) [.string (⟨#[87, 73, 84, 72, 73, 78]⟩ : ByteArray)] from rfl) (Reps.one (show Kd.M Kd.string _ _ _ (⟨#[82, 69, 84, 85, 82, 78]⟩ : ByteArray) [.string (⟨#[82, 69, 84, 85, 82, 78]⟩ : ByteArray)] from rfl) (Reps.one (show Kd.M Kd.string _ _ _ (⟨#[65, 78, 68]⟩ : ByteArray) [.string (⟨#[65, 78, 68]⟩ : ByteArray)] from rfl) (Reps.one (show Kd.M Kd.string _ _ _ (⟨#[79, 82]⟩ : ByteArray) [.string (⟨#[79, 82]⟩ : ByteArray)] from rfl) (Reps.one (show Kd.M Kd.string _ _ _ (⟨#[78, 79, 84]⟩ : ByteArray) [.string (⟨#[78, 79, 84]⟩ : ByteArray)] from rfl) (Reps.one (show Kd.M Kd.string _ _ _ (⟨#[84, 82, 85, 69]⟩ : ByteArray) [.string (⟨#[84, 82, 85, 69]⟩ : ByteArray)] from rfl) (Reps.one (show Kd.M Kd.string _ _ _ (⟨#[70, 65, 76, 83, 69]⟩ : ByteArray) [.string (⟨#[70, 65, 76, 83, 69]⟩ : ByteArray)] from rfl) (Reps.one (show Kd.M Kd.string _ _ _ (⟨#[84, 89, 80, 69]⟩ : ByteArray) [.string (⟨#[84, 89, 80, 69]⟩ : ByteArray)] from rfl) (Reps.one (show Kd.M Kd.string _ _ _ (⟨#[73, 78, 84]⟩ : ByteArray) [.string (⟨#[73, 78, 84]⟩ : ByteArray)] from rfl) (Reps.one (show Kd.M Kd.string _ _ _ (⟨#[83, 84, 82]⟩ : ByteArray) [.string (⟨#[83, 84, 82]⟩ : ByteArray)] from rfl) (Reps.one (show Kd.M Kd.string _ _ _ (⟨#[66, 79, 79, 76]⟩ : ByteArray) [.string (⟨#[66, 79, 79, 76]⟩ : ByteArray)] from rfl) (Reps.none _ _)))))))))))))))))); intro v666 w1 ho2 hb hg_ hnew_; clear hg_ hnew_; (first | rw [← Ny665.out] at ho2 | (simp only [Int.reduceToNat] at ho2; rw [← Ny665.out] at ho2)); have HO667 := Aside0.mk (Kd.R_lower ho2 (below_size (hbT HB.out))); replace HB := bsA HB hb; clear hb ho2))
  go_ret
  exact ⟨_, by first | rfl | (simp [errW_none, errW_some] <;> rfl) | (simp [*, errW_none, errW_some] <;> rfl), by (with_reducible repeat (first | apply Kd.R_alloc | apply Kd.R_drewN | apply Kd.R_drew)); exact HO667.out, hbT HB.out⟩

/-! ### refrainref5_Word: function 59 -/
def refrainref5_Word.f (k : Nat) (a0 : ByteArray) : Option (Bool) := (refrainref5_words.f).bind fun t668 => ((refrainref5_among.f k t668 a0).bind fun t671 => (some t671))
set_option maxRecDepth 100000 in
theorem refrainref5_Word.mono : ∀ a0 k, LeO (refrainref5_Word.f k a0) (refrainref5_Word.f (k + 1) a0) := by
  intro a0 k
  unfold refrainref5_Word.f
  repeat' first
      | (with_reducible exact refrainref5_among.mono _ _ _)
      | (with_reducible exact LeO.refl _)
      | (with_reducible exact LeO.none _)
      | (with_reducible refine LeO.ite ?_ ?_)
      | (with_reducible refine LeO.bind ?_ (fun _ => ?_))
      | exact refrainref5_among.mono _ _ _
      | exact LeO.none _
      | refine LeO.ite ?_ ?_
      | refine LeO.bind ?_ (fun _ => ?_)
set_option maxHeartbeats 8000000 in
set_option maxRecDepth 100000 in
theorem refrainref5_Word.calls (k : Nat) (a0 : ByteArray) (r : Bool) (w : World) (h : refrainref5_Word.f k a0 = some r) :
    Calls Tryd.prog 59 #[.string a0] w fun e w' => e = .returned (.bool r) ∧ Below w.heap.size w w' := by
  have HB := Aside0.mk (Below.refl w.heap.size w)
  have H : ((refrainref5_words.f).bind fun t668 => ((refrainref5_among.f k t668 a0).bind fun t671 => (some t671))) = some r := h
  clear h
  replace H := Option.bind_eq_some_iff.mp H
  obtain ⟨t668, A20, H⟩ := H
  replace H : ((refrainref5_among.f k t668 a0).bind fun t671 => (some t671)) = some r := H
  have A2 := Aside0.mk A20
  clear A20
  replace H := Option.bind_eq_some_iff.mp H
  obtain ⟨t671, A30, H⟩ := H
  replace H : (some t671) = some r := H
  have A3 := Aside0.mk A30
  clear A30
  obtain rfl := Option.some.inj H
  go_enter Tryd.func59, Tryd.ntmps59
  go_wp2_with (first | ((with_reducible refine gate_callee (f := 72) rfl ?_); refine goesT (some 3) Tryd.func72 #[] ?_; (with_reducible refine (refrainref5_words.calls  t668 _ A2.out).mono ?_); rintro e w4 ⟨v669, rfl, ho0, hb⟩; refine ⟨_, rfl, ?_⟩; have HO670 := Aside0.mk (Kd.R_lower ho0 (below_size (hbT HB.out))); replace HB := bsA HB hb; (try clear hb); (try clear hb2); (try clear hk); (try clear hi); (try clear ho0); obtain ⟨Ao5, co5, eo5⟩ := Kd.R_slice HO670.out; subst eo5) | ((with_reducible refine gate_callee (f := 71) rfl ?_); refine goesT (some 5) Tryd.func71 #[.slice Ao5 t668.length co5, .string a0] ?_; (with_reducible refine (refrainref5_among.calls k _ _ t668 a0 t671 _ ?side1 ?side2 A3.out).mono ?_); (case side1 => repeat (first | exact (Kd.R_reads' HO670.out).2.2 | (with_reducible refine Kd.C_alloc ?_ _) | (with_reducible refine Kd.C_drewN ?_ _) | (with_reducible refine Kd.C_drew ?_))); (case side2 => exact (Kd.R_reads' HO670.out).2.1); rintro e w' ⟨rfl, ⟨nd, rfl⟩⟩; refine ⟨_, rfl, ?_⟩))
  go_ret
  exact ⟨by first | rfl | (simp [errW_none, errW_some] <;> rfl) | (simp [*, errW_none, errW_some] <;> rfl), hbT HB.out⟩

/-! ### refrainlaw5_scanned: function 28 -/
end Go.Proofs.YthmcapdakplhdaaDoor.Pr
end

/-! ## text ExtHn3 -/
section
/- One call of the law TokenAll, walked: it answers true where the program's answers are the document's. -/
namespace Go.Proofs.YthmcapdakplhdaaDoor.Pr
open Go Go.RowKit Go.Proofs.YthmcapdakplhdaaDoorW.PrintWords Go.Proofs.YthmcapdakplhdaaDoorW.PrintLast Go.Proofs.YthmcapdakplhdaaDoorW.PrintMore
set_option maxRecDepth 100000
set_option linter.unusedVariables false
set_option linter.unusedSimpArgs false
/-- The hand's memory stands. -/
def Hd (W : World) (g base : Nat) : Prop := base ≤ g ∧ ∃ (v : Value) (zs : List S44), W.heap[g]? = some (.cells #[v] 56 (0, 0)) ∧ Kd.R k44 44 W base (fun k => k ≠ g) v zs ∧ ∃ A', v = .slice A' zs.length zs.length
theorem Hd.below {W W' : World} {g base : Nat} (h : Hd W g base) (hb : Below W.heap.size W W') : Hd W' g base := by
  obtain ⟨h1, v, zs, h2, h3, h4⟩ := h
  exact ⟨h1, v, zs, blk_below h2 hb, Kd.R_below h3 hb, h4⟩
/-- What one call asks of the two texts. -/
def Agrees (o : S59) : Prop :=
  (∃ k1 k2 k3 r a e, token_Scan.f k1 o.f1 = some (r, a, e) ∧ refrainref5_Scan.f k2 o.f1 = some (r, a, e) ∧ refrainlaw5_eqToks.f k3 r r = some true) ∧
  (∃ k s e, token_Spell.f o.f2 = some (s, e) ∧ refrainref5_Spell.f k o.f2 = some (s, e)) ∧
  (∃ k b, token_Word.f o.f1 = some b ∧ refrainref5_Word.f k o.f1 = some b)
theorem own_ne {W : World} {x : Nat} {cs : Array Value} {base : Nat} {ok : Nat → Prop} {v : Value} {zs : List S44} (h : Kd.R k44 44 W base ok v zs) (hx : W.heap[x]? = some (.cells cs 59 (0, 0))) : v.ownBlock ≠ some x := by
  rcases (enc_of_R h).2 with ⟨e, _⟩ | ⟨b, cap, cur, e, _, hh, _⟩
  · rw [e]; simp [Value.ownBlock]
  · rw [e]
    intro q
    have : b = x := Option.some.inj q
    subst this
    rw [hx] at hh
    injection hh with hh
    injection hh with _ hh
    exact absurd hh (by decide)
/-- What is kept through a region that calls. -/
def Sx (g base : Nat) (W W' : World) : Prop := Below base W W' ∧ Hd W' g base ∧ base ≤ W'.heap.size
theorem sx1 {base g : Nat} {W w : World} (h : Aside0 (Sx g base W w)) : Aside0 (Sx g base W w.drew) := ⟨pw_below_drewN h.out.1 1, h.out.2.1.below (pw_below_drewN (Below.refl _ _) 1), h.out.2.2⟩
theorem sx2 {base g n : Nat} {W w : World} (h : Aside0 (Sx g base W w)) : Aside0 (Sx g base W (w.drewN n)) := ⟨pw_below_drewN h.out.1 n, h.out.2.1.below (pw_below_drewN (Below.refl _ _) n), h.out.2.2⟩
theorem sx3 {base g : Nat} {W w w2 : World} (hb : Below w.heap.size w w2) (h : Aside0 (Sx g base W w)) : Aside0 (Sx g base W w2) := ⟨h.out.1.trans (hb.mono h.out.2.2), h.out.2.1.below hb, Nat.le_trans h.out.2.2 hb.size⟩
theorem Sx_below {base g : Nat} {W w : World} (h : Aside0 (Sx g base W w)) : Below base W w := h.out.1
theorem sC1 {w : World} {a : Addr} {v : Value} (h : w.cell? a = some v) : w.drew.cell? a = some v := h
theorem sC2 {n : Nat} {w : World} {a : Addr} {v : Value} (h : w.cell? a = some v) : (w.drewN n).cell? a = some v := h
theorem sC3 {w w2 : World} {a : Addr} {v : Value} (hb : Below w.heap.size w w2) (h : w.cell? a = some v) : w2.cell? a = some v := pw_cell_below hb h
set_option maxHeartbeats 16000000 in
theorem law5_plays (g base : Nat) (o : S59) (A : Option Addr) (c : Nat) (W : World) (hH : Aside0 (Hd W g base)) (hC : Aside0 (∀ W', Below base W W' → Kd.C k44 W' A o.f2.length o.f2)) (hc : o.f2.length ≤ c) (hn : o.f2.length ≤ 4398046510976)
    (hL : Aside0 (∀ W', Below base W W' → LErr W')) (hG : Aside0 (∀ W', Below base W W' → LG0 W')) (hA : Aside0 (Agrees o)) (hbs : Aside0 (base ≤ W.heap.size)) :
    Calls Tryd.prog 27 #[.pointer (some ⟨g, 0, none⟩), .agg #[.int .i64 o.f0, .string o.f1, .slice A o.f2.length c]] W fun e W' => e = .returned (.bool true) ∧ Hd W' g base ∧ Below base W W' := by
  obtain ⟨kind, text, toks⟩ := o
  simp only [] at hC hc hn hA ⊢
  go_enter Tryd.func27, Tryd.ntmps27
  go_upto_region 1 with (fail)
  obtain ⟨x, hx⟩ : ∃ x, x = W.heap.size := ⟨_, rfl⟩
  have hx0 : (W.alloc (.cells #[.int .i64 kind, .string text, .slice A toks.length c] 59)).heap[x]? = some (.cells #[.int .i64 kind, .string text, .slice A toks.length c] 59 (0, 0)) := by rw [hx]; exact blk_new _ _
  have hH1 : Aside0 (Hd (W.alloc (.cells #[.int .i64 kind, .string text, .slice A toks.length c] 59)) g base) := ⟨hH.out.below (below_alloc (Below.refl _ _) _)⟩
  have hB1 : Aside0 (Below base W (W.alloc (.cells #[.int .i64 kind, .string text, .slice A toks.length c] 59))) := ⟨(Below.refl base W).alloc hbs.out _⟩
  have hs1 : Aside0 (base ≤ (W.alloc (.cells #[.int .i64 kind, .string text, .slice A toks.length c] 59)).heap.size) := ⟨by rw [World.size_alloc]; have := hbs.out; omega⟩
  rw [← hx]
  generalize (W.alloc (.cells #[.int .i64 kind, .string text, .slice A toks.length c] 59)) = w1 at *
  clear hx hH
  have HX := Aside0.mk hx0
  have hc0 : w1.cell? ⟨x, 0, none⟩ = some (.int .i64 kind) := blk_cell hx0 0
  have hc1 : w1.cell? ⟨x, 1, none⟩ = some (.string text) := blk_cell hx0 1
  have hc2 : w1.cell? ⟨x, 2, none⟩ = some (.slice A toks.length c) := blk_cell hx0 2
  clear hx0
  by_cases k1 : kind = 1
  · as_aux_lemma =>
    subst k1
    obtain ⟨⟨q1, q2, q3, r, a, e, hs, hr, he⟩, _⟩ := hA.out
    have HS := Aside0.mk hs
    have HR := Aside0.mk hr
    have HE := Aside0.mk he
    clear hA hs hr he
    go_wp2_with (first | (go_at_call 21; refine (token_Scan.calls q1 text r a e _ ⟨hL.out _ hB1.out⟩ HS.out).mono ?_; rintro e1 w2 ⟨v1, rfl, hv1, hb2⟩; have hd1 := pw_cell_below hb2 hc1; have HH2 := Aside0.mk (hH1.out.below hb2); have HB2 := Aside0.mk (hB1.out.trans (hb2.mono hs1.out)); obtain ⟨A1, c1, e1⟩ := Kd.R_slice hv1; subst e1; have HV1 := Aside0.mk hv1; have HZ2 : Aside0 (base ≤ w2.heap.size) := ⟨Nat.le_trans hs1.out hb2.size⟩; clear hv1 hb2) | (go_at_call 55; refine (refrainref5_Scan.calls q2 text r a e _ HR.out).mono ?_; rintro e2 w3 ⟨v2, rfl, hv2, hb3⟩; have HH3 := Aside0.mk (HH2.out.below hb3); have HB3 := Aside0.mk (HB2.out.trans (hb3.mono HZ2.out)); obtain ⟨A2, c2, e2⟩ := Kd.R_slice hv2; subst e2; have HV2 := Aside0.mk hv2; have HV3 := Aside0.mk (Kd.R_below HV1.out hb3); clear hv2 hb3) | (go_at_call 32; refine (refrainlaw5_eqToks.calls q3 A1 c1 r A2 c2 r true _ (Kd.R_reads' HV3.out).2.2 (Kd.R_reads' HV3.out).2.1 (Kd.R_reads' HV2.out).2.2 (Kd.R_reads' HV2.out).2.1 HE.out).mono ?_; rintro e3 w4 ⟨rfl, n4, rfl⟩))
    go_ret
    exact ⟨rfl, HH3.out.below (pw_below_drewN (Below.refl _ _) _), pw_below_drewN HB3.out _⟩
  by_cases k2 : kind = 2
  · as_aux_lemma =>
    subst k2
    obtain ⟨_, ⟨q1, s, e, hs, hr⟩, _⟩ := hA.out
    have HS := Aside0.mk hs
    have HR := Aside0.mk hr
    obtain ⟨hgb, v, zs, hg, hrw, hf⟩ := hH1.out
    have HGB := Aside0.mk hgb
    have HG := Aside0.mk hg
    have HRW := Aside0.mk hrw
    have HFL := Aside0.mk hf
    have HVX := Aside0.mk (own_ne hrw HX.out)
    have HXG : Aside0 (x ≠ g) := ⟨by rintro rfl; have e1 := HX.out; rw [hg] at e1; injection e1 with e1; injection e1 with _ e1; exact absurd e1 (by decide)⟩
    clear hA hs hr hgb hg hrw hf hc1
    go_wp2_with (first | (go_at_call 56; go_loud (refine (law5_list g base A c toks zs w1 v HG.out HGB.out HRW.out HFL.out ⟨fun W' h => hC.out W' (hB1.out.trans h)⟩ hc hn).mono ?_; rintro e2 w2 ⟨b, cap, rfl, hcap, hg2, hr2, hb2, hf2⟩; have HX2 := Aside0.mk ((hf2 x (blk_lt HX.out) HXG.out HVX.out).2.trans HX.out); have HXB := Aside0.mk (hf2 x (blk_lt HX.out) HXG.out HVX.out).1; have hd2 : w2.cell? ⟨x, 2, none⟩ = some (.slice A toks.length c) := blk_cell HX2.out 2; have HG2 := Aside0.mk hg2; have HR2 := Aside0.mk hr2; have HB2 := Aside0.mk (hB1.out.trans hb2); have HC2 : Aside0 (Kd.C k44 w2 (some ⟨b, 0, none⟩) toks.length toks) := ⟨by have h9 := Kd.C_take (Kd.R_reads' hr2).2.2 (m := toks.length) (by simp); rwa [List.take_append_of_le_length (Nat.le_refl _), List.take_length] at h9⟩; clear hg2 hr2 hb2 hf2)) | (go_at_call 23; go_loud (refine (token_Spell.calls (some ⟨b, 0, none⟩) cap toks s e w2 HC2.out hcap ⟨hL.out _ HB2.out⟩ HS.out).mono ?_; rintro e3 w3 ⟨rfl, hb3⟩; have HX3 := Aside0.mk (blk_below HX2.out hb3); have hd3 : w3.cell? ⟨x, 2, none⟩ = some (.slice A toks.length c) := blk_cell HX3.out 2; have HG3 := Aside0.mk (blk_below HG2.out hb3); have HR3 := Aside0.mk (Kd.R_below HR2.out hb3); have HB3 := Aside0.mk (HB2.out.trans (hb3.mono (by have := HB2.out.size; have := hbs.out; omega))); clear hb3)) | (go_at_call 57; go_loud (refine (refrainref5_Spell.calls q1 A c toks s e w3 (hC.out _ HB3.out) hc HR.out).mono ?_; rintro e4 w4 ⟨rfl, hb4⟩; have HX4 := Aside0.mk (blk_below HX3.out hb4); have hd4 : w4.cell? ⟨x, 2, none⟩ = some (.slice A toks.length c) := blk_cell HX4.out 2; have HG4 := Aside0.mk (blk_below HG3.out hb4); have HR4 := Aside0.mk (Kd.R_below HR3.out hb4); have HB4 := Aside0.mk (HB3.out.trans (hb4.mono (by have := HB3.out.size; have := hbs.out; omega))); clear hb4)) | (go_at_call 58; go_loud (refine (law5_kept g base b cap c A toks w4 HG4.out HGB.out HR4.out ⟨fun W' h => hC.out W' (HB4.out.trans h)⟩ hc hcap).mono ?_; rintro e5 w5 ⟨rfl, hg5, hr5, hb5, hf5⟩; have HG5 := Aside0.mk hg5; have HR5 := Aside0.mk hr5; have HB5 := Aside0.mk (HB4.out.trans hb5); clear hg5 hr5 hb5 hf5)))
    go_ret
    exact ⟨rfl, ⟨HGB.out, _, _, HG5.out, HR5.out, some ⟨b, 0, none⟩, by rw [List.length_replicate]⟩, HB5.out⟩
  by_cases k3 : kind = 3
  · as_aux_lemma =>
    subst k3
    obtain ⟨_, _, ⟨q1, b, hs, hr⟩⟩ := hA.out
    have HS := Aside0.mk hs
    have HR := Aside0.mk hr
    clear hA hs hr hc2
    go_wp2
    have hX := hc1
    have HSX : Aside0 (Sx g base W w1) := ⟨hB1.out, hH1.out, hs1.out⟩
    clear hc1 hc0 hB1 hH1 hs1 HX hC hL
    go_region_held3 (fun W' => W'.cell? ⟨x, 1, none⟩ = some (.string text) ∧ Aside0 (Sx g base W W')) (refine ⟨?_, ?_⟩ <;> first | assumption | exact sC1 (by first | assumption | exact And.left (by assumption)) | exact sC2 (by first | assumption | exact And.left (by assumption)) | exact sC3 (by assumption) (And.left (by assumption)) | exact sx1 (by first | assumption | exact And.right (by assumption)) | exact sx2 (by first | assumption | exact And.right (by assumption)) | exact sx3 (by assumption) (And.right (by assumption))) (first | (go_at_call 54; go_loud (refine (token_Word.calls text b _ ⟨hG.out _ (Sx_below (And.right (by assumption)))⟩ HS.out).mono ?_; rintro e w2 ⟨rfl, n2, rfl⟩)) | (go_at_call 59; refine (refrainref5_Word.calls q1 text b _ HR.out).mono ?_; rintro e w2 ⟨rfl, hb2⟩))
    all_goals (go_wp2; go_ret; refine ⟨by simp, ?_⟩; have h9 := (‹_ ∧ Aside0 (Sx g base W _)› : _ ∧ _).2.out; exact ⟨h9.2.1, h9.1⟩)
  · as_aux_lemma =>
    clear hA hC
    have k1b : (kind == 1) = false := beq_eq_false_iff_ne.2 k1
    have k2b : (kind == 2) = false := beq_eq_false_iff_ne.2 k2
    have k3b : (kind == 3) = false := beq_eq_false_iff_ne.2 k3
    go_wp2
    go_ret
    exact ⟨rfl, hH1.out, hB1.out⟩
end Go.Proofs.YthmcapdakplhdaaDoor.Pr
end

/-! ## text PrxTA -/
section
/- The law TokenAll, walked: it answers true where every call's answers are the document's. -/
namespace Go.Proofs.YthmcapdakplhdaaDoor.Pr
open Go Go.RowKit Go.Proofs.YthmcapdakplhdaaDoorW.PrintWords Go.Proofs.YthmcapdakplhdaaDoorW.PrintLast Go.Proofs.YthmcapdakplhdaaDoorW.PrintMore
set_option maxRecDepth 100000
set_option linter.unusedVariables false
set_option linter.unusedSimpArgs false
set_option maxHeartbeats 16000000 in
theorem law5_TokenAll (q : Nat) (A0 : Option Addr) (c0 : Nat) (x : List S59) (w : World) (hr0 : Kd.C k59 w A0 x.length x) (hc0 : x.length ≤ c0) (hx : x.length ≤ 4611686018427387904) (hn : ∀ o ∈ x, o.f2.length ≤ 4398046510976) (hA : ∀ o ∈ x, Agrees o) (hb : refrainlaw5_begun.f q = some true)
    (hL : Aside0 (LErr w)) (hG : Aside0 (LG0 w)) :
    Calls Tryd.prog 11 #[.slice A0 x.length c0] w fun e w' => e = .returned (.bool true) ∧ Below w.heap.size w w' := by
  have HR0 := Aside0.mk hr0
  have HN := Aside0.mk hn
  have HA := Aside0.mk hA
  have HBG := Aside0.mk hb
  have HL : Aside0 (∀ W', Below w.heap.size w W' → LErr W') := ⟨fun W' h => hL.out.below h⟩
  have HG : Aside0 (∀ W', Below w.heap.size w W' → LG0 W') := ⟨fun W' h => hG.out.below h⟩
  clear hr0 hA hn hb
  go_enter Tryd.func11, Tryd.ntmps11
  go_upto_region 4 with (go_at_call 26; refine (refrainlaw5_begun.calls q true _ hL hG HBG.out).mono ?_; rintro e w1 ⟨rfl, hb⟩; have HB := Aside0.mk hb; clear hb)
  obtain ⟨g, hg⟩ : ∃ g, g = w1.heap.size := ⟨_, rfl⟩
  have hgb : w.heap.size ≤ g := by rw [hg]; exact HB.out.size
  have hH : Hd (w1.alloc (.cells #[.slice none 0 0] 56)) g w.heap.size := ⟨hgb, .slice none 0 0, [], by rw [hg]; exact blk_new _ _, Kd.R_nil _ _ _ _ _, none, rfl⟩
  have HH2 := Aside0.mk hH
  have HB2 : Aside0 (Below w.heap.size w (w1.alloc (.cells #[.slice none 0 0] 56))) := ⟨below_alloc HB.out _⟩
  rw [← hg]
  clear hH hgb HB hg
  generalize w1.alloc (.cells #[.slice none 0 0] 56) = w2 at *
  go_wp2
  go_loopg [4] x.length (fun gk v4 wx => ∃ i : Nat, v4 = .int .i64 i ∧ i + gk = x.length ∧ Aside0 (Hd wx g w.heap.size) ∧ Aside0 (Below w.heap.size w wx))
  case atStart => exact ⟨0, rfl, by omega, HH2, HB2⟩
  case round =>
    clear HH2 HB2
    obtain ⟨i, rfl, hik, HH, HB⟩ := hrel
    by_cases hlt : i < x.length
    · have hd : decide ((i : Int) < (x.length : Int)) = true := decide_eq_true (by omega)
      have p1 : 0 ≤ (i : Int) := by omega
      have q1 : (i : Int) < (x.length : Int) := by omega
      have hm := HB.out.size
      obtain ⟨ad, A2, c2, e1, hx0, hx1, hx2, hl2, hC2⟩ := at_T59 (Kd.C_below HR0.out HB.out) (i : Int) p1 q1
      obtain ⟨ad', A2', c2', e1', hx0', hx1', hx2', hl2', hC2'⟩ := at_T59 HR0.out (i : Int) p1 q1
      cases e1
      cases e1'
      have e3 := (pw_cell_below HB.out hx2').symm.trans hx2
      injection e3 with e3
      injection e3 with e3 e4 e5
      subst e3
      subst e5
      rw [Int.toNat_natCast] at hx0 hx1 hx2
      have HC2 : Aside0 (∀ W', Below w.heap.size w W' → Kd.C k44 W' A2' (rd_T59 x (i : Int)).f2.length (rd_T59 x (i : Int)).f2) := ⟨fun W' h => Kd.C_below hC2' h⟩
      have hmem : rd_T59 x (i : Int) ∈ x := by
        show x.getD _ _ ∈ x
        rw [Int.toNat_natCast, List.getD_eq_getElem?_getD, List.getElem?_eq_getElem hlt]
        exact List.getElem_mem _
      have hno := HN.out _ hmem
      have HAo := Aside0.mk (HA.out _ hmem)
      generalize rd_T59 x (i : Int) = o at *
      have HS : Aside0 (w.heap.size ≤ wr.heap.size) := ⟨hm⟩
      have HLo : Aside0 (∀ W', Below w.heap.size wr W' → LErr W') := ⟨fun W' h => HL.out _ (HB.out.trans h)⟩
      have HGo : Aside0 (∀ W', Below w.heap.size wr W' → LG0 W') := ⟨fun W' h => HG.out _ (HB.out.trans h)⟩
      have HCo : Aside0 (∀ W', Below w.heap.size wr W' → Kd.C k44 W' A2' o.f2.length o.f2) := ⟨fun W' h => HC2.out _ (HB.out.trans h)⟩
      replace p1 := eq_true p1
      replace q1 := eq_true q1
      clear hmem hx0' hx1' hx2' hl2' hC2' hC2 HC2 hm
      go_wp2_with (go_at_call 27; go_loud (refine (law5_plays g w.heap.size o A2' c2' wr HH HCo hl2 hno HLo HGo HAo HS).mono ?_; rintro e w5 ⟨rfl, hh5, hb5⟩; have HH5 := Aside0.mk hh5; have HB5 := Aside0.mk (HB.out.trans hb5); clear hh5 hb5))
      go_roundg (x.length - (i + 1))
      case measure => omega
      case rel => exact ⟨i + 1, rfl, by omega, HH5, HB5⟩
    · have hd : decide ((i : Int) < (x.length : Int)) = false := decide_eq_false (by omega)
      go_wp2
      go_ret
      exact ⟨rfl, HB.out⟩
open Classical in
/-- What it answers, where every call is as the document says. -/
noncomputable def refrainlaw5_TokenAll.f (_k : Nat) (x : List S59) : Option Bool :=
  if x.length ≤ 4611686018427387904 ∧ (∀ o ∈ x, o.f2.length ≤ 4398046510976) ∧ (∀ o ∈ x, Agrees o) ∧ (∃ q, refrainlaw5_begun.f q = some true) then some true else none
theorem refrainlaw5_TokenAll.calls (k : Nat) (A0 : Option Addr) (c0 : Nat) (l0 : List (S59)) (r : Bool) (w : World) (hr0 : Kd.C k59 w A0 l0.length l0) (hc0 : l0.length ≤ c0) (HL_LErr : Aside0 (LErr w)) (HL_LG0 : Aside0 (LG0 w)) (h : refrainlaw5_TokenAll.f k l0 = some r) :
    Calls Tryd.prog 11 #[.slice A0 l0.length c0] w fun e w' => e = .returned (.bool r) ∧ Below w.heap.size w w' := by
  unfold refrainlaw5_TokenAll.f at h
  split at h
  · rename_i hb
    obtain rfl := Option.some.inj h
    obtain ⟨h1, h2, h3, q, h4⟩ := hb
    exact law5_TokenAll q A0 c0 l0 w hr0 hc0 h1 h2 h3 h4 HL_LErr HL_LG0
  · cases h
end Go.Proofs.YthmcapdakplhdaaDoor.Pr
end

/-! ## text OpnTokenAll -/
section
namespace Go.Proofs.YthmcapdakplhdaaDoor.tokenAll
open Go Go.RowKit Go.Proofs.YthmcapdakplhdaaDoor.Pr Go.Proofs.YthmcapdakplhdaaDoor.Opn Go.Proofs.YthmcapdakplhdaaDoorW.PrintWords Go.Proofs.YthmcapdakplhdaaDoorW.PrintLast Go.Proofs.YthmcapdakplhdaaDoorW.PrintMore
set_option linter.unusedVariables false
def G44 (x : S44) : Prop := (Lit.int .i64 x.f0).wf = true ∧ x.f1.size ≤ 140737488351232 ∧ (Lit.int .i64 x.f2).wf = true
theorem op44 (n : Nat) : OpensN Tryd.prog (n + 1) 44 k44 G44 := by
  refine (opens_struct (t := 44) (fl := [(3, 0), (9, 1), (3, 2)]) Tryd.underlying44 (by rfl) (by kernel_rfl) (opensF_cons (opens_int Tryd.underlying3) (opensF_cons (opens_string Tryd.underlying9) (opensF_one (opens_int Tryd.underlying3)))) (fun x : S44 => (x.f0, x.f1, x.f2)) (fun p => (⟨p.1, p.2.1, p.2.2⟩ : S44)) (fun _ => rfl)).mono (fun x h => h)
def G59 (x : S59) : Prop := (Lit.int .i64 x.f0).wf = true ∧ x.f1.size ≤ 140737488351232 ∧ LG 32 (fun x => G44 x) x.f2
theorem op59 (n : Nat) : OpensN Tryd.prog (n + 3) 59 k59 G59 := by
  refine (opens_struct (t := 59) (fl := [(3, 0), (9, 1), (40, 2)]) Tryd.underlying59 (by rfl) (by kernel_rfl) (opensF_cons (opens_int Tryd.underlying3) (opensF_cons (opens_string Tryd.underlying9) (opensF_one (opens_slice (e := 44) Tryd.underlying40 (by kernel_rfl) (B := 32) (by kernel_rfl) (op44 n))))) (fun x : S59 => (x.f0, x.f1, x.f2)) (fun p => (⟨p.1, p.2.1, p.2.2⟩ : S59)) (fun _ => rfl)).mono (fun x h => h)
/-- THE ONE PURE STATEMENT of TokenAll. -/
def PureG : Prop := ∀ (x0 : (List S59)), LG 48 (fun x => G59 x) x0 → ∃ k, refrainlaw5_TokenAll.f k x0 = some true
end Go.Proofs.YthmcapdakplhdaaDoor.tokenAll
end

/-! ## text PuR1 -/
section
/- The document's scanner (refrainref5) on lists of bytes, part 1: bytes, numbers, runs. -/
namespace Go.Proofs.YthmcapdakplhdaaDoor.Pu
open Go Go.RowKit Go.Proofs.YthmcapdakplhdaaDoor.Pr Go.Proofs.YthmcapdakplhdaaDoorW.PrintWords Go.Proofs.YthmcapdakplhdaaDoorW.PrintLast Go.Proofs.YthmcapdakplhdaaDoorW.PrintMore
set_option linter.unusedVariables false
set_option linter.unusedSimpArgs false
theorem blank_n : ∀ n : Nat, n < 256 → refrainref5_blank.f (n : Int) = some (blankN n) := by decide +kernel
theorem letter_n : ∀ n : Nat, n < 256 → refrainref5_letter.f (n : Int) = some (letN n) := by decide +kernel
theorem digit_n : ∀ n : Nat, n < 256 → refrainref5_digit.f (n : Int) = some (digN n) := by decide +kernel
theorem rhex_n : ∀ n : Nat, n < 256 → refrainref5_hex.f 20 (n : Int) = some (hexN n) := by decide +kernel
theorem rhex_ev (c : UInt8) : Ev (fun k => refrainref5_hex.f k (c.toNat : Int)) (hexN c.toNat) := Ev.of (fun k => refrainref5_hex.mono _ k) (rhex_n _ c.toNat_lt)
theorem w1 (n : Nat) (h : n ≤ 4611686018427387904) : wrap64 ((n : Int) + 1) = ((n + 1 : Nat) : Int) := by unfold wrap64; omega
theorem wnn (a b : Nat) (h : a + b ≤ 4611686018427387904) : wrap64 ((a : Int) + (b : Int)) = ((a + b : Nat) : Int) := by unfold wrap64; omega
theorem small_ev (w : List UInt8) : Ev (fun k => refrainref5_small.f k (B w)) (smallB w) := by
  have key : ∀ b : Bool, Ev (fun k => refrainref5_small.j0 k (B w) b) (if b = true then false else if w.length = 19 then Op.bytesLess w mostD || w == mostD else decide (w.length < 19)) := by
    intro b
    refine Ev.step (f := fun _ => some _) (fun k => ?_) (Ev.now _)
    simp only [refrainref5_small.j0, B_size, B_toList]
    cases b
    · rw [if_neg Bool.false_ne_true, if_neg Bool.false_ne_true]
      by_cases h : w.length = 19
      · rw [if_pos (by omega), if_pos h]
        show (if Op.bytesLess w mostD = true then some true else if w = mostD then some true else some false) = _
        by_cases h2 : Op.bytesLess w mostD = true
        · rw [if_pos h2, h2]; rfl
        · rw [if_neg h2]
          rw [Bool.not_eq_true] at h2
          rw [h2, Bool.false_or]
          by_cases h3 : w = mostD
          · rw [if_pos h3, h3]; rfl
          · rw [if_neg h3, beq_eq_false_iff_ne.2 h3]
      · rw [if_neg (by omega), if_neg h]
        congr 1
        rw [Bool.eq_iff_iff, decide_eq_true_eq, decide_eq_true_eq]
        omega
    · rfl
  unfold smallB
  have hk := key (decide (1 < w.length) && w.head? == some 48)
  refine Ev.congr (fun k => ?_) hk
  unfold refrainref5_small.f
  rw [B_size]
  by_cases h : 1 < w.length
  · rw [if_pos (by omega), if_pos (by omega)]
    match w, h with
    | c :: t, h =>
      rw [bt_head]
      have e1 : (((c.toNat : Nat) : Int) == 48) = (decide (1 < (c :: t).length) && (c :: t).head? == some 48) := by
        rw [decide_eq_true h, Bool.true_and, List.head?_cons, Bool.eq_iff_iff, beq_iff_eq, beq_iff_eq]
        constructor
        · intro q
          have : c = 48 := UInt8.toNat_inj.1 (by show c.toNat = 48; omega)
          rw [this]
        · intro q
          rw [Option.some.inj q]; rfl
      rw [e1]
  · rw [if_neg (by omega), decide_eq_false h, Bool.false_and]
/-! runs -/
def dB (c : UInt8) : Bool := digN c.toNat
theorem run_ev5 (l : List UInt8) (hl : l.length ≤ 140737488355328) (letters : Bool) (p : UInt8 → Bool) (hp : ∀ c, p c = (digN c.toNat || (letters && letN c.toNat))) : ∀ (rest pre : List UInt8), pre ++ rest = l →
    Ev (fun k => refrainref5_run.l0 k (B l) (pre.length : Int) letters) ((pre.length + (rest.takeWhile p).length : Nat) : Int)
  | [], pre, h => by
    have hz : l.length = pre.length := by rw [← h]; simp
    refine Ev.step (f := fun _ => some _) (fun k => ?_) (Ev.now _)
    simp only [refrainref5_run.l0]
    rw [if_neg (by rw [B_size]; omega)]
    simp
  | c :: t, pre, h => by
    have hz : l.length = pre.length + (t.length + 1) := by rw [← h]; simp
    have ih := run_ev5 l hl letters p hp t (pre ++ [c]) (by rw [← h]; simp)
    rw [List.length_append, List.length_singleton] at ih
    have hb : bt (B l) (pre.length : Int) = (c.toNat : Int) := by rw [← h]; exact bt_mid pre c t
    have hd := digit_n c.toNat c.toNat_lt
    have hle := letter_n c.toNat c.toNat_lt
    have hpc := hp c
    rw [List.takeWhile_cons]
    by_cases hq : p c = true
    · rw [if_pos hq, List.length_cons, show pre.length + ((t.takeWhile p).length + 1) = pre.length + 1 + (t.takeWhile p).length by omega]
      refine Ev.step (fun k => ?_) ih
      simp only [refrainref5_run.l0]
      rw [if_pos (by rw [B_size]; omega), if_pos (by omega), hb, hd, Option.bind_some, hle]
      rw [hpc] at hq
      cases h1 : digN c.toNat
      · rw [h1, Bool.false_or] at hq
        obtain ⟨q1, q2⟩ := Bool.and_eq_true_iff.1 hq
        rw [if_neg (by decide), if_pos q1, Option.bind_some, if_pos q2, w1 _ (by omega)]
      · rw [if_pos rfl, w1 _ (by omega)]
    · rw [if_neg hq]
      rw [Bool.not_eq_true] at hq
      rw [hpc, Bool.or_eq_false_iff] at hq
      refine Ev.step (f := fun _ => some _) (fun k => ?_) (Ev.now _)
      simp only [refrainref5_run.l0]
      rw [if_pos (by rw [B_size]; omega), if_pos (by omega), hb, hd, Option.bind_some, hle, hq.1, if_neg (by decide)]
      cases letters
      · rw [if_neg (by decide)]; simp
      · have := hq.2
        rw [Bool.true_and] at this
        rw [if_pos rfl, Option.bind_some, this, if_neg (by decide)]; simp
end Go.Proofs.YthmcapdakplhdaaDoor.Pu
end

/-! ## text PuR2 -/
section
/- The document's scanner on lists of bytes, part 2: strings, signs. -/
namespace Go.Proofs.YthmcapdakplhdaaDoor.Pu
open Go Go.RowKit Go.Proofs.YthmcapdakplhdaaDoor.Pr Go.Proofs.YthmcapdakplhdaaDoorW.PrintWords Go.Proofs.YthmcapdakplhdaaDoorW.PrintLast Go.Proofs.YthmcapdakplhdaaDoorW.PrintMore
set_option linter.unusedVariables false
set_option linter.unusedSimpArgs false
/-- What an escape stands for, as the document's function tells it. -/
def chE (t : List UInt8) : Int × Int × Int × Int :=
  if (escL t).2.2 = 0 then ((escL t).1, (escL t).2.1, 0, 0) else (0, 0, (if (escL t).2.2 = 52 then -1 else 0), (escL t).2.2)
theorem bt_at (pre : List UInt8) (a c : UInt8) (t l : List UInt8) (h : pre ++ a :: c :: t = l) : bt (B l) ((pre.length + 1 : Nat) : Int) = (c.toNat : Int) := by
  have := bt_mid (pre ++ [a]) c t
  rw [List.length_append, List.length_singleton, List.append_assoc, List.singleton_append, h] at this
  exact this
theorem bt_at2 (pre : List UInt8) (a b c : UInt8) (t l : List UInt8) (h : pre ++ a :: b :: c :: t = l) : bt (B l) ((pre.length + 2 : Nat) : Int) = (c.toNat : Int) := by
  have := bt_mid (pre ++ [a, b]) c t
  rw [List.length_append, List.append_assoc] at this
  simp only [List.length_cons, List.length_nil, List.cons_append, List.nil_append] at this
  rw [h] at this
  exact this
theorem bt_at3 (pre : List UInt8) (a b c d : UInt8) (t l : List UInt8) (h : pre ++ a :: b :: c :: d :: t = l) : bt (B l) ((pre.length + 3 : Nat) : Int) = (d.toNat : Int) := by
  have := bt_mid (pre ++ [a, b, c]) d t
  rw [List.length_append, List.append_assoc] at this
  simp only [List.length_cons, List.length_nil, List.cons_append, List.nil_append] at this
  rw [h] at this
  exact this
/-- The two digits. -/
theorem chx_ev (l : List UInt8) (hl : l.length ≤ 4096) (pre : List UInt8) (a b : UInt8) (t : List UInt8) (h : pre ++ a :: b :: t = l) :
    Ev (fun k => refrainref5_character.l0 k (B l) (pre.length : Int) 0 2) (if (hexL t).2.2 = 0 then ((hexL t).1, (hexL t).2.1, 0, 0) else (0, 0, (if (hexL t).2.2 = 52 then -1 else 0), (hexL t).2.2)) := by
  have hz : l.length = pre.length + (t.length + 2) := by rw [← h]; simp
  have e2 := wnn pre.length 2 (by omega)
  have e3 := wnn pre.length 3 (by omega)
  match t, h, hz with
  | [], h, hz =>
    refine Ev.step (f := fun _ => some _) (fun k => ?_) (Ev.now _)
    simp only [refrainref5_character.l0]
    rw [if_pos (by decide), if_pos (by rw [B_size]; rw [show wrap64 ((pre.length : Int) + 2) = ((pre.length + 2 : Nat) : Int) from e2]; simp at hz; omega)]
    rfl
  | c :: t, h, hz =>
    have hc := bt_at2 pre a b c t l h
    have hx := rhex_ev c
    have hle := hexN_le c.toNat c.toNat_lt
    by_cases hn : hexN c.toNat < 0
    · refine Ev.step (f := fun k => (refrainref5_hex.f k (c.toNat : Int)).bind fun t550 => (if t550 < 0 then (some (0, 0, 0, 51)) else (refrainref5_character.l0 k (B l) (pre.length : Int) (wrap64 ((wrap64 (16 * 0)) + t550)) (wrap64 (2 + 1))))) (fun k => ?_) (Ev.bind hx ?_)
      · simp only [refrainref5_character.l0]
        rw [show wrap64 ((pre.length : Int) + 2) = ((pre.length + 2 : Nat) : Int) from e2, if_pos (by decide), if_neg (by rw [B_size]; simp at hz; omega), if_pos (by omega), if_pos (by rw [B_size]; simp at hz; omega), hc]
      · refine Ev.congr (fun k => ?_) (Ev.now _)
        rw [if_pos hn]
        have : hexL (c :: t) = (0, 0, 51) := by
          cases t with
          | nil => rw [hexL, if_pos hn]
          | cons d t => rw [hexL, if_pos hn]
        rw [this]; rfl
    · refine Ev.step (f := fun k => (refrainref5_hex.f k (c.toNat : Int)).bind fun t550 => (if t550 < 0 then (some (0, 0, 0, 51)) else (refrainref5_character.l0 k (B l) (pre.length : Int) (wrap64 ((wrap64 (16 * 0)) + t550)) (wrap64 (2 + 1))))) (fun k => ?_) (Ev.bind hx ?_)
      · simp only [refrainref5_character.l0]
        rw [show wrap64 ((pre.length : Int) + 2) = ((pre.length + 2 : Nat) : Int) from e2, if_pos (by decide), if_neg (by rw [B_size]; simp at hz; omega), if_pos (by omega), if_pos (by rw [B_size]; simp at hz; omega), hc]
      · have ew : wrap64 ((wrap64 (16 * 0)) + hexN c.toNat) = hexN c.toNat := by unfold wrap64; omega
        have ew2 : wrap64 ((2 : Int) + 1) = 3 := by unfold wrap64; omega
        refine Ev.congr (g := _) (f := fun k => refrainref5_character.l0 k (B l) (pre.length : Int) (hexN c.toNat) 3) (fun k => by rw [if_neg hn, ew, ew2]) ?_
        match t, h, hz with
        | [], h, hz =>
          refine Ev.step (f := fun _ => some _) (fun k => ?_) (Ev.now _)
          simp only [refrainref5_character.l0]
          rw [if_pos (by decide), show wrap64 ((pre.length : Int) + 3) = ((pre.length + 3 : Nat) : Int) from e3, if_pos (by rw [B_size]; simp at hz; omega), hexL, if_neg hn]
          rfl
        | d :: t, h, hz =>
          have hd := bt_at3 pre a b c d t l h
          have hy := rhex_ev d
          have hle2 := hexN_le d.toNat d.toNat_lt
          refine Ev.step (f := fun k => (refrainref5_hex.f k (d.toNat : Int)).bind fun t550 => (if t550 < 0 then (some (0, 0, 0, 51)) else (refrainref5_character.l0 k (B l) (pre.length : Int) (wrap64 ((wrap64 (16 * hexN c.toNat)) + t550)) (wrap64 (3 + 1))))) (fun k => ?_) (Ev.bind hy ?_)
          · simp only [refrainref5_character.l0]
            rw [show wrap64 ((pre.length : Int) + 3) = ((pre.length + 3 : Nat) : Int) from e3, if_pos (by decide), if_neg (by rw [B_size]; simp at hz; omega), if_pos (by omega), if_pos (by rw [B_size]; simp at hz; omega), hd]
          · rw [hexL, if_neg hn]
            by_cases hm : hexN d.toNat < 0
            · rw [if_pos hm]
              refine Ev.congr (fun k => ?_) (Ev.now _)
              rw [if_pos hm]
              rfl
            · rw [if_neg hm]
              have ew3 : wrap64 ((3 : Int) + 1) = 4 := by unfold wrap64; omega
              have ew4 : wrap64 ((wrap64 (16 * hexN c.toNat)) + hexN d.toNat) = hexN c.toNat * 16 + hexN d.toNat := by unfold wrap64; omega
              refine Ev.congr (g := _) (f := fun k => refrainref5_character.l0 k (B l) (pre.length : Int) (hexN c.toNat * 16 + hexN d.toNat) 4) (fun k => by rw [if_neg hm, ew3, ew4]) ?_
              refine Ev.step (f := fun _ => some _) (fun k => ?_) (Ev.now _)
              simp only [refrainref5_character.l0]
              rw [if_neg (by decide)]
              rfl
/-- Behind a backslash. -/
theorem che_ev (l : List UInt8) (hl : l.length ≤ 4096) (pre : List UInt8) (t : List UInt8) (h : pre ++ 92 :: t = l) : Ev (fun k => refrainref5_character.f k (B l) (pre.length : Int)) (chE t) := by
  have hz : l.length = pre.length + (t.length + 1) := by rw [← h]; simp
  have hb : bt (B l) (pre.length : Int) = 92 := by rw [← h]; exact bt_mid pre 92 t
  have e1 := w1 pre.length (by omega)
  have k0 : Ev (fun k => refrainref5_character.j0 k (B l) (pre.length : Int) 92 false) (chE t) := by
    unfold chE
    match t, h, hz with
    | [], h, hz =>
      refine Ev.step (f := fun _ => some _) (fun k => ?_) (Ev.now _)
      simp only [refrainref5_character.j0]
      rw [if_neg (by decide), if_pos trivial, e1, if_pos (by rw [B_size]; simp at hz; omega)]
      rfl
    | c :: t, h, hz =>
      have hc := bt_at pre 92 c t l h
      have hg : ¬ (((pre.length + 1 : Nat) : Int) ≥ ((B l).size : Int)) := by rw [B_size]; simp at hz; omega
      have hlt : ((pre.length + 1 : Nat) : Int) < ((B l).size : Int) := by rw [B_size]; simp at hz; omega
      have key : ∀ x : Bool, (x = decide (c.toNat = 34 ∨ c.toNat = 92)) → Ev (fun k => refrainref5_character.j1 k (B l) (pre.length : Int) (c.toNat : Int) x) (if (escL (c :: t)).2.2 = 0 then ((escL (c :: t)).1, (escL (c :: t)).2.1, 0, 0) else (0, 0, (if (escL (c :: t)).2.2 = 52 then -1 else 0), (escL (c :: t)).2.2)) := by
        intro x hx
        rw [escL]
        by_cases hq : c.toNat = 34 ∨ c.toNat = 92
        · rw [if_pos hq]
          rw [decide_eq_true hq] at hx
          subst hx
          refine Ev.step (f := fun _ => some _) (fun k => ?_) (Ev.now _)
          simp only [refrainref5_character.j1]
          rw [if_pos trivial, e1, if_pos (by omega), if_pos hlt, hc]
          rfl
        · rw [if_neg hq]
          rw [decide_eq_false hq] at hx
          subst hx
          by_cases h110 : c.toNat = 110
          · rw [if_pos h110]
            refine Ev.step (f := fun _ => some _) (fun k => ?_) (Ev.now _)
            simp only [refrainref5_character.j1]
            rw [if_neg (by decide), if_pos (by omega)]
            rfl
          · rw [if_neg h110]
            by_cases h116 : c.toNat = 116
            · rw [if_pos h116]
              refine Ev.step (f := fun _ => some _) (fun k => ?_) (Ev.now _)
              simp only [refrainref5_character.j1]
              rw [if_neg (by decide), if_neg (by omega), if_pos (by omega)]
              rfl
            · rw [if_neg h116]
              by_cases h120 : c.toNat = 120
              · rw [if_pos h120]
                refine Ev.step (fun k => ?_) (chx_ev l hl pre 92 c t h)
                simp only [refrainref5_character.j1]
                rw [if_neg (by decide), if_neg (by omega), if_neg (by omega), if_pos (by omega)]
              · rw [if_neg h120]
                refine Ev.step (f := fun _ => some _) (fun k => ?_) (Ev.now _)
                simp only [refrainref5_character.j1]
                rw [if_neg (by decide), if_neg (by omega), if_neg (by omega), if_neg (by omega)]
                rfl
      by_cases h34 : c.toNat = 34
      · refine Ev.step (fun k => ?_) (key true (by rw [decide_eq_true (Or.inl h34)]))
        simp only [refrainref5_character.j0]
        rw [if_neg (by decide), if_pos trivial, e1, if_neg hg, if_pos (by omega), if_pos hlt, hc, if_pos (by omega), h34]
        rfl
      · refine Ev.step (fun k => ?_) (key ((c.toNat : Int) == 92) (by rw [Bool.eq_iff_iff, beq_iff_eq, decide_eq_true_eq]; omega))
        simp only [refrainref5_character.j0]
        rw [if_neg (by decide), if_pos trivial, e1, if_neg hg, if_pos (by omega), if_pos hlt, hc, if_neg (by omega)]
  refine Ev.congr (fun k => ?_) k0
  unfold refrainref5_character.f
  rw [if_pos (by omega), if_pos (by rw [B_size]; omega), hb, if_neg (by decide)]
  rfl
/-- A byte that is no backslash. -/
theorem chp_ev (l : List UInt8) (hl : l.length ≤ 4096) (pre : List UInt8) (c : UInt8) (t : List UInt8) (h : pre ++ c :: t = l) (h92 : c.toNat ≠ 92) :
    Ev (fun k => refrainref5_character.f k (B l) (pre.length : Int)) (if c.toNat < 32 ∨ 126 < c.toNat then (0, 0, 0, 50) else ((c.toNat : Int), 1, 0, 0)) := by
  have hz : l.length = pre.length + (t.length + 1) := by rw [← h]; simp
  have hb : bt (B l) (pre.length : Int) = (c.toNat : Int) := by rw [← h]; exact bt_mid pre c t
  have key : ∀ x : Bool, x = decide (c.toNat < 32 ∨ 126 < c.toNat) → Ev (fun k => refrainref5_character.j0 k (B l) (pre.length : Int) (c.toNat : Int) x) (if c.toNat < 32 ∨ 126 < c.toNat then (0, 0, 0, 50) else ((c.toNat : Int), 1, 0, 0)) := by
    intro x hx
    refine Ev.step (f := fun _ => some _) (fun k => ?_) (Ev.now _)
    simp only [refrainref5_character.j0]
    by_cases hq : c.toNat < 32 ∨ 126 < c.toNat
    · rw [decide_eq_true hq] at hx
      rw [if_pos hx, if_pos hq]
    · rw [decide_eq_false hq] at hx
      rw [if_neg (by rw [hx]; decide), if_neg (by omega), if_neg hq]
  by_cases h1 : c.toNat < 32
  · refine Ev.congr (fun k => ?_) (key true (by rw [decide_eq_true (Or.inl h1)]))
    unfold refrainref5_character.f
    rw [if_pos (by omega), if_pos (by rw [B_size]; omega), hb, if_pos (by omega)]
  · refine Ev.congr (fun k => ?_) (key (decide ((c.toNat : Int) > 126)) (by rw [Bool.eq_iff_iff, decide_eq_true_eq, decide_eq_true_eq]; omega))
    unfold refrainref5_character.f
    rw [if_pos (by omega), if_pos (by rw [B_size]; omega), hb, if_neg (by omega)]
/-- What str answers where unquote does. -/
def strT (frm : Nat) (u : ByteArray × Int × Int) : Int × ByteArray × Int × Int × Int × Int :=
  if u.2.2 = 0 then (3, u.1, (frm : Int), u.2.1, 0, 0) else (0, ⟨#[]⟩, 0, 0, u.2.1, u.2.2)
theorem str_ev (l : List UInt8) (hl : l.length ≤ 4096) (frm : Nat) : ∀ (f : Nat) (rest pre : List UInt8) (acc : List Int), pre ++ rest = l → rest.length < f → acc.length ≤ 256 →
    Ev (fun k => refrainref5_str.l0 k (B l) (frm : Int) acc (pre.length : Int)) (strT frm (unqL f rest acc pre.length frm)) := by
  intro f
  induction f with
  | zero => intro rest pre acc _ h; omega
  | succ f ih =>
    intro rest pre acc h hf ha
    match rest, h, hf with
    | [], h, hf =>
      have hz : l.length = pre.length := by rw [← h]; simp
      refine Ev.step (f := fun _ => some _) (fun k => ?_) (Ev.now _)
      simp only [refrainref5_str.l0]
      rw [if_neg (by rw [B_size]; omega)]
      rfl
    | c :: t, h, hf =>
      have hz : l.length = pre.length + (t.length + 1) := by rw [← h]; simp
      have hb : bt (B l) (pre.length : Int) = (c.toNat : Int) := by rw [← h]; exact bt_mid pre c t
      have ht : t.length < f := by rw [List.length_cons] at hf; omega
      rw [unqL]
      by_cases h34 : c.toNat = 34
      · rw [if_pos h34]
        refine Ev.step (f := fun _ => some _) (fun k => ?_) (Ev.now _)
        simp only [refrainref5_str.l0]
        rw [if_pos (by rw [B_size]; omega), if_pos (by omega), hb, if_pos (by omega), w1 _ (by omega)]
        rfl
      · rw [if_neg h34]
        -- behind a character
        have good : ∀ (x n : Int) (m : Nat) (rest' : List UInt8), n = (m : Int) → 1 ≤ m → (c :: t).drop m = rest' → m ≤ t.length + 1 → Ev (fun k => refrainref5_str.j1 k (B l) (frm : Int) acc (pre.length : Int) x n 0 false)
            (strT frm (if acc.length = 256 then (B [], (frm : Int), 51) else unqL f rest' (acc ++ [x]) (pre.length + m) frm)) := by
          intro x n m rest' hn hm hr hmle
          subst hn
          by_cases h256 : acc.length = 256
          · rw [if_pos h256]
            refine Ev.step (f := fun _ => some _) (fun k => ?_) (Ev.now _)
            simp only [refrainref5_str.j1]
            rw [if_neg (by decide), if_pos (by decide), if_pos (by omega), Option.bind_some, if_pos (by rw [List.length_append, List.length_singleton]; omega)]
            rfl
          · rw [if_neg h256]
            have hp : (pre ++ (c :: t).take m) ++ rest' = l := by rw [← hr, List.append_assoc, List.take_append_drop, h]
            have hlen : (pre ++ (c :: t).take m).length = pre.length + m := by rw [List.length_append, List.length_take, List.length_cons]; omega
            have ih2 := ih rest' (pre ++ (c :: t).take m) (acc ++ [x]) hp (by rw [← hr, List.length_drop, List.length_cons]; omega) (by rw [List.length_append, List.length_singleton]; omega)
            rw [hlen] at ih2
            refine Ev.step (fun k => ?_) ih2
            simp only [refrainref5_str.j1]
            rw [if_neg (by decide), if_pos (by decide), if_pos (by omega), Option.bind_some, if_neg (by rw [List.length_append, List.length_singleton]; omega), wnn _ _ (by omega)]
        have bad : ∀ (x n e : Int) (b : Bool), e ≠ 0 → Ev (fun k => refrainref5_str.j1 k (B l) (frm : Int) acc (pre.length : Int) x n e b) (0, (⟨#[]⟩ : ByteArray), 0, 0, (if b = true then (frm : Int) else (pre.length : Int)), e) := by
          intro x n e b he
          refine Ev.step (f := fun _ => some _) (fun k => ?_) (Ev.now _)
          simp only [refrainref5_str.j1]
          cases b
          · rw [if_neg (by decide), if_neg he]; rfl
          · rw [if_pos rfl]; rfl
        have step : ∀ (ch : Int × Int × Int × Int) (R), Ev (fun k => refrainref5_character.f k (B l) (pre.length : Int)) ch → Ev (fun k => refrainref5_str.j1 k (B l) (frm : Int) acc (pre.length : Int) ch.1 ch.2.1 ch.2.2.2 (if ch.2.2.2 = 0 then false else decide (ch.2.2.1 < 0))) R → Ev (fun k => refrainref5_str.l0 k (B l) (frm : Int) acc (pre.length : Int)) R := by
          intro ch R h1 h2
          refine Ev.step (f := fun k => (refrainref5_character.f k (B l) (pre.length : Int)).bind fun bt552 => (if bt552.2.2.2 = 0 then (refrainref5_str.j1 k (B l) (frm : Int) acc (pre.length : Int) bt552.1 bt552.2.1 bt552.2.2.2 false) else (refrainref5_str.j1 k (B l) (frm : Int) acc (pre.length : Int) bt552.1 bt552.2.1 bt552.2.2.2 (decide (bt552.2.2.1 < 0))))) (fun k => ?_) (Ev.bind h1 ?_)
          · simp only [refrainref5_str.l0]
            rw [if_pos (by rw [B_size]; omega), if_pos (by omega), hb, if_neg (by omega)]
          · refine Ev.congr (fun k => ?_) h2
            split <;> rfl
        by_cases hbad : c.toNat < 32 ∨ 126 < c.toNat
        · rw [if_pos hbad]
          have h1 := chp_ev l hl pre c t h (by omega)
          rw [if_pos hbad] at h1
          exact step _ _ h1 (bad 0 0 50 false (by decide))
        · rw [if_neg hbad]
          by_cases h92 : c.toNat = 92
          · rw [if_pos h92]
            have hc92 : c = 92 := UInt8.toNat_inj.1 h92
            subst hc92
            have h1 := che_ev l hl pre t h
            by_cases h0 : (escL t).2.2 = 0
            · rw [if_pos h0]
              unfold chE at h1
              rw [if_pos h0] at h1
              obtain ⟨m, hm, hm2, hm3⟩ := esc_len t h0
              rw [hm, Int.toNat_natCast]
              rw [hm] at h1
              exact step _ _ h1 (good (escL t).1 (m : Int) m _ rfl (by omega) rfl (by omega))
            · rw [if_neg h0]
              unfold chE at h1
              rw [if_neg h0] at h1
              by_cases h52 : (escL t).2.2 = 52
              · rw [if_pos h52, h52] at h1
                rw [if_pos h52]
                exact step _ _ h1 (bad 0 0 52 true (by decide))
              · rw [if_neg h52] at h1
                rw [if_neg h52]
                have h2 := bad 0 0 (escL t).2.2 false h0
                have h3 := step _ (strT frm (B [], (pre.length : Int), (escL t).2.2)) h1 (by
                  refine Ev.congr (fun k => ?_) (show Ev _ (strT frm (B [], (pre.length : Int), (escL t).2.2)) from by
                    unfold strT
                    rw [if_neg h0]
                    exact h2)
                  rw [if_neg h0]
                  rfl)
                exact h3
          · rw [if_neg h92]
            have h1 := chp_ev l hl pre c t h h92
            rw [if_neg hbad] at h1
            exact step _ _ h1 (good (c.toNat : Int) 1 1 t rfl (Nat.le_refl _) rfl (by omega))
end Go.Proofs.YthmcapdakplhdaaDoor.Pu
end

/-! ## text PuR3 -/
section
/- The document's scanner on lists of bytes, part 3: one token, blanks and comments, the whole. -/
namespace Go.Proofs.YthmcapdakplhdaaDoor.Pu
open Go Go.RowKit Go.Proofs.YthmcapdakplhdaaDoor.Pr Go.Proofs.YthmcapdakplhdaaDoorW.PrintWords Go.Proofs.YthmcapdakplhdaaDoorW.PrintLast Go.Proofs.YthmcapdakplhdaaDoorW.PrintMore
set_option linter.unusedVariables false
set_option linter.unusedSimpArgs false
/-- The first of the signs with which a text begins. -/
def fstS : List ByteArray → List UInt8 → Option ByteArray
  | [], _ => none
  | w :: ws, r => if r.take w.data.toList.length = w.data.toList then some w else fstS ws r
def fstT (pos : Nat) : Option ByteArray → Int × ByteArray × Int × Int × Int × Int
  | none => (0, ⟨#[]⟩, 0, 0, (pos : Int), 50)
  | some w => (4, w, (pos : Int), ((pos + w.size : Nat) : Int), 0, 0)
theorem rdB (xs : List ByteArray) (i : Nat) (w : ByteArray) (ws : List ByteArray) (h : xs.drop i = w :: ws) : rdOf ByteArray.empty xs (i : Int) = w := by
  show xs.getD _ _ = w
  rw [Int.toNat_natCast, List.getD_eq_getElem?_getD]
  have : xs[i]? = some w := by
    have h2 : (xs.drop i)[0]? = some w := by rw [h]; rfl
    rwa [List.getElem?_drop, Nat.add_zero] at h2
  rw [this]; rfl
theorem signs_ev (l : List UInt8) (hl : l.length ≤ 4096) (pre rest : List UInt8) (h : pre ++ rest = l) (xs : List ByteArray) (hx : xs.length ≤ 1000) (hw : ∀ w ∈ xs, w.size ≤ 1000) : ∀ (ws : List ByteArray) (i : Nat), xs.drop i = ws → i + ws.length = xs.length →
    Ev (fun k => refrainref5_one.l0 k (B l) (pre.length : Int) xs (i : Int)) (fstT pre.length (fstS ws rest))
  | [], i, hd, hi => by
    refine Ev.step (f := fun _ => some _) (fun k => ?_) (Ev.now _)
    simp only [refrainref5_one.l0]
    rw [if_neg (by simp at hi; omega)]
    rfl
  | w :: ws, i, hd, hi => by
    have hz : l.length = pre.length + rest.length := by rw [← h]; simp
    rw [List.length_cons] at hi
    have hr := rdB xs i w ws hd
    have hd2 : xs.drop (i + 1) = ws := by
      have := congrArg (List.drop 1) hd
      rwa [List.drop_drop, List.drop_one, List.tail_cons] at this
    have hws : w.size ≤ 1000 := hw w (List.mem_of_mem_drop (hd ▸ List.mem_cons_self))
    have ih := signs_ev l hl pre rest h xs hx hw ws (i + 1) hd2 (by omega)
    have hdl := data_len w
    have next : ∀ (hno : ¬ (rest.take w.data.toList.length = w.data.toList)), Ev (fun k => refrainref5_one.l0 k (B l) (pre.length : Int) xs (wrap64 ((i : Int) + 1))) (fstT pre.length (fstS (w :: ws) rest)) := by
      intro hno
      rw [fstS, if_neg hno, w1 i (by omega)]
      exact ih
    by_cases hs : pre.length + w.size ≤ l.length
    · have e := wnn pre.length w.size (by omega)
      have he : ((B l).extract (pre.length : Int).toNat ((pre.length + w.size : Nat) : Int).toNat).toList = rest.take w.data.toList.length := by
        rw [Int.toNat_natCast, Int.toNat_natCast, ← h, B_ext_mid, B_toList, hdl]
      by_cases hq : rest.take w.data.toList.length = w.data.toList
      · refine Ev.step (f := fun _ => some _) (fun k => ?_) (Ev.now _)
        simp only [refrainref5_one.l0]
        rw [if_pos (by omega), if_pos (by omega), hr, e, if_pos (by rw [B_size]; omega), if_pos (by omega), if_pos (by omega), he, tl_data, if_pos hq, fstS, if_pos hq]
        rfl
      · refine Ev.step (fun k => ?_) (next hq)
        simp only [refrainref5_one.l0]
        rw [if_pos (by omega), if_pos (by omega), hr, e, if_pos (by rw [B_size]; omega), if_pos (by omega), if_pos (by omega), he, tl_data, if_neg hq]
    · have e := wnn pre.length w.size (by omega)
      refine Ev.step (fun k => ?_) (next (fun hq => by
        have := congrArg List.length hq
        rw [List.length_take] at this
        omega))
      simp only [refrainref5_one.l0]
      rw [if_pos (by omega), if_pos (by omega), hr, e, if_neg (by rw [B_size]; omega)]
def sgnsB : List ByteArray := [(⟨#[46, 46]⟩ : ByteArray), (⟨#[33, 61]⟩ : ByteArray), (⟨#[60, 61]⟩ : ByteArray), (⟨#[62, 61]⟩ : ByteArray), (⟨#[40]⟩ : ByteArray), (⟨#[41]⟩ : ByteArray), (⟨#[91]⟩ : ByteArray), (⟨#[93]⟩ : ByteArray), (⟨#[123]⟩ : ByteArray), (⟨#[125]⟩ : ByteArray), (⟨#[44]⟩ : ByteArray), (⟨#[46]⟩ : ByteArray), (⟨#[43]⟩ : ByteArray), (⟨#[45]⟩ : ByteArray), (⟨#[42]⟩ : ByteArray), (⟨#[61]⟩ : ByteArray), (⟨#[60]⟩ : ByteArray), (⟨#[62]⟩ : ByteArray), (⟨#[33]⟩ : ByteArray)]
theorem sgns_f : refrainref5_signs.f = some sgnsB := rfl
/-- The first sign, by what stands at the front. -/
def sgn2 (n m : Nat) : Nat := if n = 33 ∨ n = 60 ∨ n = 62 then (if m = 61 then 2 else 1) else if n = 46 then (if m = 46 then 2 else 1) else if signN n then 1 else 0
theorem fst_one : ∀ n : Nat, n < 256 → fstS sgnsB [UInt8.ofNat n] = (if signN n then some (B [UInt8.ofNat n]) else none) ∧ signL [UInt8.ofNat n] = (if signN n then 1 else 0) := by decide +kernel
theorem fst_two : ∀ n : Nat, n < 256 → ∀ m : Nat, m ∈ [61, 46, 0] → fstS sgnsB [UInt8.ofNat n, UInt8.ofNat m] = (if signN n then some (B ([UInt8.ofNat n, UInt8.ofNat m].take (sgn2 n m))) else none) ∧ signL [UInt8.ofNat n, UInt8.ofNat m] = sgn2 n m ∧ (m = 0 → sgn2 n m ≤ 1) := by decide +kernel
theorem fstS_other (c d d' : UInt8) (t : List UInt8) (h61 : d ≠ 61) (h46 : d ≠ 46) (g61 : d' ≠ 61) (g46 : d' ≠ 46) : ∀ ws : List ByteArray, (∀ w ∈ ws, w.data.toList.length = 1 ∨ (∃ a, w.data.toList = [a, 61] ∨ w.data.toList = [a, 46])) → fstS ws (c :: d :: t) = fstS ws [c, d']
  | [], _ => rfl
  | w :: ws, hw => by
    have ih := fstS_other c d d' t h61 h46 g61 g46 ws (fun x hx => hw x (List.mem_cons_of_mem _ hx))
    rw [fstS, fstS, ih]
    rcases hw w List.mem_cons_self with h | ⟨a, h | h⟩
    · rw [h]; rfl
    · rw [h]
      rw [if_neg (by simp [h61]), if_neg (by simp [g61])]
    · rw [h]
      rw [if_neg (by simp [h46]), if_neg (by simp [g46])]
theorem sgns_shape : ∀ w ∈ sgnsB, w.data.toList.length = 1 ∨ (∃ a, w.data.toList = [a, 61] ∨ w.data.toList = [a, 46]) := by
  intro w hw
  simp only [sgnsB, List.mem_cons, List.mem_nil_iff, or_false] at hw
  rcases hw with rfl | rfl | rfl | rfl | rfl | rfl | rfl | rfl | rfl | rfl | rfl | rfl | rfl | rfl | rfl | rfl | rfl | rfl | rfl
  · exact .inr ⟨46, .inr rfl⟩
  · exact .inr ⟨33, .inl rfl⟩
  · exact .inr ⟨60, .inl rfl⟩
  · exact .inr ⟨62, .inl rfl⟩
  all_goals exact .inl rfl
theorem fst_sign (c : UInt8) (t : List UInt8) : fstS sgnsB (c :: t) = (if signN c.toNat then some (B ((c :: t).take (signL (c :: t)))) else none) := by
  have hc : UInt8.ofNat c.toNat = c := UInt8.ofNat_toNat
  match t with
  | [] =>
    have := fst_one c.toNat c.toNat_lt
    rw [hc] at this
    rw [this.1, this.2]
    split <;> rfl
  | d :: t =>
    by_cases h61 : d = 61
    · subst h61
      have := fst_two c.toNat c.toNat_lt 61 (by simp)
      rw [hc] at this
      have e1 : fstS sgnsB (c :: 61 :: t) = fstS sgnsB [c, 61] := rfl
      have e2 : signL (c :: 61 :: t) = signL [c, 61] := rfl
      have e3 : signL [c, 61] = sgn2 c.toNat 61 := this.2.1
      rw [e1, e2, e3]
      refine this.1.trans ?_
      have h2 : sgn2 c.toNat 61 ≤ 2 := by unfold sgn2; (repeat' split) <;> omega
      generalize sgn2 c.toNat 61 = q at h2 ⊢
      match q, h2 with
      | 0, _ => rfl
      | 1, _ => rfl
      | 2, _ => rfl
    · by_cases h46 : d = 46
      · subst h46
        have := fst_two c.toNat c.toNat_lt 46 (by simp)
        rw [hc] at this
        have e1 : fstS sgnsB (c :: 46 :: t) = fstS sgnsB [c, 46] := rfl
        have e2 : signL (c :: 46 :: t) = signL [c, 46] := rfl
        have e3 : signL [c, 46] = sgn2 c.toNat 46 := this.2.1
        rw [e1, e2, e3]
        refine this.1.trans ?_
        have h2 : sgn2 c.toNat 46 ≤ 2 := by unfold sgn2; (repeat' split) <;> omega
        generalize sgn2 c.toNat 46 = q at h2 ⊢
        match q, h2 with
        | 0, _ => rfl
        | 1, _ => rfl
        | 2, _ => rfl
      · have := fst_two c.toNat c.toNat_lt 0 (by simp)
        rw [hc] at this
        have e1 : fstS sgnsB (c :: d :: t) = fstS sgnsB [c, 0] := fstS_other c d 0 t h61 h46 (by decide) (by decide) sgnsB sgns_shape
        have e2 : signL (c :: d :: t) = signL [c, 0] := by
          simp only [signL]
          have a61 : ((d :: t).take 1 == [61]) = false := by simp [h61]
          have a46 : ((d :: t).take 1 == [46]) = false := by simp [h46]
          rw [a61, a46]
          rfl
        have e3 : signL [c, 0] = sgn2 c.toNat 0 := this.2.1
        rw [e1, e2, e3]
        refine this.1.trans ?_
        have h2 : sgn2 c.toNat 0 ≤ 1 := this.2.2 rfl
        generalize sgn2 c.toNat 0 = q at h2 ⊢
        match q, h2 with
        | 0, _ => rfl
        | 1, _ => rfl
/-- What one answers. -/
def oneT (c : UInt8) (t : List UInt8) (pos : Nat) : Int × ByteArray × Int × Int × Int × Int :=
  if begL c = 2 then (if 32 < runL (c :: t) then (0, ⟨#[]⟩, 0, 0, (pos : Int), 51) else (1, B ((c :: t).take (runL (c :: t))), (pos : Int), ((pos + runL (c :: t) : Nat) : Int), 0, 0))
  else if begL c = 3 then (if isIntB ((c :: t).take (runL (c :: t))) = true then (2, B ((c :: t).take (runL (c :: t))), (pos : Int), ((pos + runL (c :: t) : Nat) : Int), 0, 0) else (0, ⟨#[]⟩, 0, 0, (pos : Int), 51))
  else if begL c = 4 then strT pos (unqL (t.length + 1) t [] (pos + 1) pos)
  else if begL c = 5 then (4, B ((c :: t).take (signL (c :: t))), (pos : Int), ((pos + signL (c :: t) : Nat) : Int), 0, 0)
  else (0, ⟨#[]⟩, 0, 0, (pos : Int), 50)
theorem beg_cases0 : ∀ n : Nat, n < 256 → begN n = 1 ∨ ((letN n = true ∧ begN n = 2) ∨ (letN n = false ∧ digN n = true ∧ begN n = 3) ∨ (letN n = false ∧ digN n = false ∧ n = 34 ∧ begN n = 4) ∨ (letN n = false ∧ digN n = false ∧ n ≠ 34 ∧ signN n = true ∧ begN n = 5) ∨ (letN n = false ∧ digN n = false ∧ n ≠ 34 ∧ signN n = false ∧ begN n = 0)) := by decide +kernel
theorem beg_cases (n : Nat) (hn : n < 256) (h : begN n ≠ 1) : (letN n = true ∧ begN n = 2) ∨ (letN n = false ∧ digN n = true ∧ begN n = 3) ∨ (letN n = false ∧ digN n = false ∧ n = 34 ∧ begN n = 4) ∨ (letN n = false ∧ digN n = false ∧ n ≠ 34 ∧ signN n = true ∧ begN n = 5) ∨ (letN n = false ∧ digN n = false ∧ n ≠ 34 ∧ signN n = false ∧ begN n = 0) := (beg_cases0 n hn).resolve_left h
theorem take_run (r : List UInt8) : r.take (runL r) = r.takeWhile goesB := by
  unfold runL
  induction r with
  | nil => rfl
  | cons c t ih =>
    rw [List.takeWhile_cons]
    split
    · rw [List.length_cons, List.take_succ_cons, ih]
    · rfl
theorem take_dB (r : List UInt8) : r.take (r.takeWhile dB).length = r.takeWhile dB := by
  induction r with
  | nil => rfl
  | cons c t ih =>
    rw [List.takeWhile_cons]
    split
    · rw [List.length_cons, List.take_succ_cons, ih]
    · rfl
theorem split_run (r : List UInt8) : r.takeWhile goesB = r.takeWhile dB ++ (r.drop (r.takeWhile dB).length).takeWhile goesB := by
  induction r with
  | nil => rfl
  | cons c t ih =>
    by_cases h : dB c = true
    · have hg : goesB c = true := by
        show (letN c.toNat || digN c.toNat) = true
        rw [show digN c.toNat = true from h, Bool.or_true]
      rw [List.takeWhile_cons, if_pos hg, List.takeWhile_cons, if_pos h, List.length_cons, List.drop_succ_cons, ih, List.cons_append]
    · rw [show (c :: t).takeWhile dB = [] by rw [List.takeWhile_cons, if_neg h]]
      rfl
theorem dB_dig (c : UInt8) : dB c = digB c := rfl
theorem all_dB (r : List UInt8) : (r.takeWhile dB).all digB = true := by
  induction r with
  | nil => rfl
  | cons c t ih =>
    rw [List.takeWhile_cons]
    split
    · rename_i h
      rw [List.all_cons, ih, Bool.and_true]
      exact h
    · rfl
theorem drop_dB (r : List UInt8) : r.drop (r.takeWhile dB).length = [] ∨ ∃ x u, r.drop (r.takeWhile dB).length = x :: u ∧ dB x = false := by
  induction r with
  | nil => exact .inl rfl
  | cons c t ih =>
    rw [List.takeWhile_cons]
    split
    · rw [List.length_cons, List.drop_succ_cons]; exact ih
    · rename_i h
      exact .inr ⟨c, t, rfl, by simpa using h⟩
/-- A number: the digits, and no letter behind them. -/
theorem int_run (r : List UInt8) (hne : r.takeWhile dB ≠ []) : isIntB (r.take (runL r)) = (smallB (r.takeWhile dB) && (match r.drop (r.takeWhile dB).length with | [] => true | x :: _ => !letN x.toNat)) ∧
    ((match r.drop (r.takeWhile dB).length with | [] => true | x :: _ => !letN x.toNat) = true → runL r = (r.takeWhile dB).length) := by
  have hs := split_run r
  have hsm := small_int _ hne (all_dB r)
  rw [take_run]
  rcases drop_dB r with h | ⟨x, u, h, hx⟩
  · rw [h] at hs ⊢
    rw [List.takeWhile_nil, List.append_nil] at hs
    rw [hs]
    refine ⟨by rw [hsm]; simp, fun _ => ?_⟩
    unfold runL
    rw [hs]
  · rw [h] at hs ⊢
    by_cases hlx : letN x.toNat = true
    · have hg : goesB x = true := by show (letN x.toNat || digN x.toNat) = true; rw [hlx]; rfl
      rw [List.takeWhile_cons, if_pos hg] at hs
      refine ⟨?_, fun q => by simp [hlx] at q⟩
      simp only [hlx, Bool.not_true, Bool.and_false]
      rw [hs]
      unfold isIntB
      have : (r.takeWhile dB ++ x :: u.takeWhile goesB).all digB = false := by
        rw [List.all_append, List.all_cons, ← dB_dig x, hx]; simp
      rw [this]; simp
    · rw [Bool.not_eq_true] at hlx
      have hg : goesB x = false := by show (letN x.toNat || digN x.toNat) = false; rw [hlx, show digN x.toNat = false from hx]; rfl
      rw [List.takeWhile_cons, if_neg (by rw [hg]; decide), List.append_nil] at hs
      rw [hs]
      refine ⟨by rw [hsm]; simp [hlx], fun _ => ?_⟩
      unfold runL
      rw [hs]
theorem one_ev (l : List UInt8) (hl : l.length ≤ 4096) (pre : List UInt8) (c : UInt8) (t : List UInt8) (h : pre ++ c :: t = l) (h1 : begL c ≠ 1) : Ev (fun k => refrainref5_one.f k (B l) (pre.length : Int)) (oneT c t pre.length) := by
  have hz : l.length = pre.length + (t.length + 1) := by rw [← h]; simp
  have hb : bt (B l) (pre.length : Int) = (c.toNat : Int) := by rw [← h]; exact bt_mid pre c t
  have hlt := letter_n c.toNat c.toNat_lt
  have hdg := digit_n c.toNat c.toNat_lt
  unfold refrainref5_one.f
  have g1 : (0 : Int) ≤ (pre.length : Int) := by omega
  have g2 : (pre.length : Int) < ((B l).size : Int) := by rw [B_size]; omega
  simp only [if_pos g1, if_pos g2, hb, hlt, hdg, Option.bind_some]
  unfold oneT begL
  rcases beg_cases c.toNat c.toNat_lt h1 with ⟨a, e⟩ | ⟨a, b, e⟩ | ⟨a, b, q, e⟩ | ⟨a, b, q, s, e⟩ | ⟨a, b, q, s, e⟩
  · rw [a, e, if_pos rfl]
    have hr := run_ev5 l (by omega) true goesB (fun c => by show (letN c.toNat || digN c.toNat) = _; rw [Bool.true_and, Bool.or_comm]) (c :: t) pre h
    have hle : runL (c :: t) ≤ t.length + 1 := runL_le (c :: t)
    change Ev _ ((pre.length + runL (c :: t) : Nat) : Int) at hr
    simp only [if_true]
    refine Ev.bind hr ?_
    have hw : wrap64 (((pre.length + runL (c :: t) : Nat) : Int) - (pre.length : Int)) = (runL (c :: t) : Int) := by unfold wrap64; omega
    refine Ev.congr (fun k => ?_) (Ev.now _)
    rw [hw]
    by_cases h32 : 32 < runL (c :: t)
    · rw [if_pos (by omega), if_pos h32]
    · rw [if_neg (by omega), if_neg h32, if_pos (by omega), if_pos (by rw [B_size]; omega), Int.toNat_natCast, Int.toNat_natCast]
      rw [← h, B_ext_mid]
  · rw [a, b, e, if_neg (by decide), if_pos rfl]
    simp only [if_true, Bool.false_eq_true, if_false]
    have hr := run_ev5 l (by omega) false dB (fun c => by show digN c.toNat = _; rw [Bool.false_and, Bool.or_false]) (c :: t) pre h
    have hne : (c :: t).takeWhile dB ≠ [] := by rw [List.takeWhile_cons, if_pos (show dB c = true from b)]; simp
    obtain ⟨hi, hrl⟩ := int_run (c :: t) hne
    have hle : ((c :: t).takeWhile dB).length ≤ t.length + 1 := takeWhile_le dB (c :: t)
    have htd := take_dB (c :: t)
    have hdr := drop_dB (c :: t)
    obtain ⟨D, hD⟩ : ∃ D, (c :: t).takeWhile dB = D := ⟨_, rfl⟩
    rw [hD] at hr hi hrl hle htd hdr
    refine Ev.bind hr ?_
    have hex : (B l).extract (pre.length : Int).toNat ((pre.length + D.length : Nat) : Int).toNat = B D := by
      rw [Int.toNat_natCast, Int.toNat_natCast, ← h, B_ext_mid, htd]
    have hs := small_ev D
    refine Ev.congr (g := _) (f := fun k => (refrainref5_small.f k (B D)).bind fun t567 => (if t567 = true then (if ((pre.length + D.length : Nat) : Int) < ((B l).size : Int) then (if 0 ≤ ((pre.length + D.length : Nat) : Int) then ((refrainref5_letter.f (bt (B l) ((pre.length + D.length : Nat) : Int))).bind fun t568 => (if t568 = true then (some (0, (⟨#[]⟩ : ByteArray), 0, 0, (pre.length : Int), 51)) else (some (2, B D, (pre.length : Int), ((pre.length + D.length : Nat) : Int), 0, 0)))) else (none)) else (some (2, B D, (pre.length : Int), ((pre.length + D.length : Nat) : Int), 0, 0))) else (some (0, (⟨#[]⟩ : ByteArray), 0, 0, (pre.length : Int), 51)))) (fun k => ?_) (Ev.bind hs ?_)
    · rw [if_pos (by omega), if_pos (by rw [B_size]; omega), hex]
    · refine Ev.congr (fun k => ?_) (Ev.now _)
      rw [hi]
      cases hsm : smallB D
      · rw [if_neg (by decide), Bool.false_and, if_neg (by decide)]
      · rw [if_pos rfl, Bool.true_and]
        rcases hdr with hd | ⟨x, u, hd, hx⟩
        · rw [hd] at hrl ⊢
          have hn : D.length = t.length + 1 := by
            have := congrArg List.length hd
            rw [List.length_drop, List.length_cons, List.length_nil] at this
            omega
          have hr2 := hrl rfl
          rw [if_neg (by rw [B_size]; omega), if_pos rfl, hr2, htd]
        · rw [hd] at hrl ⊢
          have hn : D.length < t.length + 1 := by
            have := congrArg List.length hd
            rw [List.length_drop, List.length_cons, List.length_cons] at this
            omega
          have hpl : (pre ++ D) ++ x :: u = l := by
            rw [← hd, List.append_assoc]
            have := List.take_append_drop D.length (c :: t)
            rw [htd] at this
            rw [this, h]
          have hbx : bt (B l) ((pre.length + D.length : Nat) : Int) = (x.toNat : Int) := by
            rw [← hpl, ← List.length_append]; exact bt_mid (pre ++ D) x u
          rw [if_pos (by rw [B_size]; omega), if_pos (by omega), hbx, letter_n x.toNat x.toNat_lt, Option.bind_some]
          cases hlx : letN x.toNat
          · have hr2 := hrl (by simp [hlx])
            rw [if_neg (by decide), if_pos (by simp [hlx]), hr2, htd]
          · rw [if_pos rfl, if_neg (by simp [hlx])]
  · rw [a, b, e, if_neg (by decide), if_neg (by decide), if_pos rfl]
    simp only [Bool.false_eq_true, if_false]
    simp only [if_pos (show (c.toNat : Int) = 34 by omega)]
    have hp : (pre ++ [c]) ++ t = l := by rw [← h]; simp
    have hs := str_ev l hl pre.length (t.length + 1) t (pre ++ [c]) [] hp (by omega) (by simp)
    rw [List.length_append, List.length_singleton] at hs
    have hs2 : Ev (fun k => refrainref5_str.f k (B l) (pre.length : Int)) (strT pre.length (unqL (t.length + 1) t [] (pre.length + 1) pre.length)) := by
      refine Ev.congr (fun k => ?_) hs
      unfold refrainref5_str.f
      rw [w1 _ (by omega)]
    refine Ev.bind hs2 ?_
    exact Ev.now _
  · rw [a, b, e, if_neg (by decide), if_neg (by decide), if_neg (by decide), if_pos rfl]
    simp only [Bool.false_eq_true, if_false]
    simp only [if_neg (show ¬ (c.toNat : Int) = 34 by omega)]
    have hs := signs_ev l hl pre (c :: t) h sgnsB (by decide) (by
      intro w hw
      rcases sgns_shape w hw with h | ⟨a, h | h⟩
      · rw [← data_len, h]; decide
      · rw [← data_len, h]; simp
      · rw [← data_len, h]; simp) sgnsB 0 rfl (by simp)
    rw [fst_sign, s, if_pos rfl] at hs
    have hl2 := signL_le (c :: t)
    have e2 : fstT pre.length (some (B ((c :: t).take (signL (c :: t))))) = (4, B ((c :: t).take (signL (c :: t))), (pre.length : Int), ((pre.length + signL (c :: t) : Nat) : Int), 0, 0) := by
      show (4, _, _, ((pre.length + (B _).size : Nat) : Int), 0, 0) = _
      rw [B_size, List.length_take, Nat.min_eq_left hl2.1]
    rw [e2] at hs
    exact hs
  · rw [a, b, e, if_neg (by decide), if_neg (by decide), if_neg (by decide), if_neg (by decide)]
    simp only [Bool.false_eq_true, if_false]
    simp only [if_neg (show ¬ (c.toNat : Int) = 34 by omega)]
    have hs := signs_ev l hl pre (c :: t) h sgnsB (by decide) (by
      intro w hw
      rcases sgns_shape w hw with h | ⟨a, h | h⟩
      · rw [← data_len, h]; decide
      · rw [← data_len, h]; simp
      · rw [← data_len, h]; simp) sgnsB 0 rfl (by simp)
    rw [fst_sign, s, if_neg (by decide)] at hs
    exact hs
end Go.Proofs.YthmcapdakplhdaaDoor.Pu
end

/-! ## text PuR5 -/
section
/- The document's speller (refrainref5), part 1: what may be, and strings as they are written: the program's own. -/
namespace Go.Proofs.YthmcapdakplhdaaDoor.Pu
open Go Go.RowKit Go.Proofs.YthmcapdakplhdaaDoor.Pr Go.Proofs.YthmcapdakplhdaaDoorW.PrintWords Go.Proofs.YthmcapdakplhdaaDoorW.PrintLast Go.Proofs.YthmcapdakplhdaaDoorW.PrintMore
set_option linter.unusedVariables false
set_option linter.unusedSimpArgs false
theorem pqs_app (a b : List UInt8) : pqs (a ++ b) = pqs a ++ pqs b := by
  induction a with
  | nil => rfl
  | cons x a ih => simp only [List.cons_append, pqs, ih, List.append_assoc]
theorem rq_dig : ∀ n : Nat, n < 256 → (0 : Int) ≤ (Int.tdiv n 16) % 256 ∧ (Int.tdiv n 16) % 256 < 16 ∧ 0 ≤ Int.tmod n 16 ∧ Int.tmod n 16 < 16 ∧ bt lowH ((Int.tdiv n 16) % 256) = bt lowH ((n : Int) / 16) ∧ bt lowH (Int.tmod n 16) = bt lowH (Go.bits .and .u8 n 15) := by decide +kernel
theorem rq_step (x0 : ByteArray) (x3 : List Int) (n : Nat) (hn : n < 256) (i : Int) (hx : x3.length + 4 < 140737488355328) (r : ByteArray)
    (h : Ev (fun k => refrainref5_quoted.l0 k x0 (x3 ++ pq n) (wrap64 (i + 1))) r) : Ev (fun k => refrainref5_quoted.j1 k x0 x3 i n (decide ((n : Int) = 34 ∨ (n : Int) = 92))) r := by
  obtain ⟨d1, d2, d3, d4, d5, d6⟩ := rq_dig n hn
  refine Ev.step ?_ h
  intro K
  rw [refrainref5_quoted.j1, pq]
  by_cases h1 : (n : Int) = 34 ∨ (n : Int) = 92
  · rw [if_pos (by simpa using h1), if_pos h1, Option.bind_some, if_pos (by simp; omega)]
  rw [if_neg (by simpa using h1), if_neg h1]
  by_cases h2 : (n : Int) = 10
  · rw [if_pos h2, if_pos h2, Option.bind_some, if_pos (by simp; omega)]
  rw [if_neg h2, if_neg h2]
  by_cases h3 : (n : Int) = 9
  · rw [if_pos h3, if_pos h3, Option.bind_some, if_pos (by simp; omega)]
  rw [if_neg h3, if_neg h3]
  have e5 : bt (⟨#[48, 49, 50, 51, 52, 53, 54, 55, 56, 57, 97, 98, 99, 100, 101, 102]⟩ : ByteArray) ((Int.tdiv n 16) % 256) = bt lowH ((n : Int) / 16) := d5
  have e6 : bt (⟨#[48, 49, 50, 51, 52, 53, 54, 55, 56, 57, 97, 98, 99, 100, 101, 102]⟩ : ByteArray) (Int.tmod n 16) = bt lowH (Go.bits .and .u8 n 15) := d6
  by_cases h4 : (n : Int) < 32
  · rw [if_pos h4, if_pos d1, if_pos d2, if_pos d3, if_pos d4, Option.bind_some, if_pos (by simp; omega), if_pos (.inl h4), e5, e6]
  rw [if_neg h4]
  by_cases h5 : (n : Int) > 126
  · rw [if_pos h5, if_pos d1, if_pos d2, if_pos d3, if_pos d4, Option.bind_some, if_pos (by simp; omega), if_pos (.inr h5), e5, e6]
  rw [if_neg h5]
  rw [if_pos (show x3.length < 140737488355328 by omega), if_neg (by omega)]
theorem rquo_loop (l : List UInt8) (hl : l.length ≤ 17592186044416) : ∀ (rest pre : List UInt8), pre ++ rest = l →
    Ev (fun k => refrainref5_quoted.l0 k (B l) (34 :: pqs pre) (pre.length : Int)) (strOfNums (34 :: (pqs pre ++ pqs rest) ++ [34])) := by
  intro rest
  induction rest with
  | nil =>
    intro pre hp
    have h1 := pqs_len pre
    simp only [List.append_nil] at hp
    subst hp
    refine Ev.step (f := fun _ => some (strOfNums (34 :: (pqs pre ++ pqs []) ++ [34]))) ?_ (Ev.now _)
    intro K
    rw [refrainref5_quoted.l0, if_neg (by rw [B_size]; omega), if_pos (by simp; omega)]
    simp [pqs]
  | cons c t ih =>
    intro pre hp
    have h1 := pqs_len pre
    have hlen : pre.length + t.length + 1 = l.length := by rw [← hp]; simp; omega
    have hb : bt (B l) (pre.length : Int) = (c.toNat : Int) := by rw [← hp, bt_mid]
    have := ih (pre ++ [c]) (by rw [← hp]; simp)
    rw [show ((pre ++ [c]).length : Int) = wrap64 ((pre.length : Int) + 1) by rw [w64 (by omega) (by omega)]; simp, pqs_app] at this
    have e1 : pqs [c] = pq c.toNat := by simp [pqs]
    rw [e1] at this
    rw [show 34 :: (pqs pre ++ pqs (c :: t)) ++ [34] = 34 :: (pqs pre ++ pq c.toNat ++ pqs t) ++ [34] by simp [pqs]]
    have h2 := rq_step (B l) (34 :: pqs pre) c.toNat c.toNat_lt (pre.length : Int) (by simp; omega) _ this
    refine Ev.step ?_ h2
    intro K
    rw [refrainref5_quoted.l0, if_pos (by rw [B_size]; omega), if_pos (by omega), hb]
    by_cases h : (c.toNat : Int) = 34
    · rw [if_pos h]; simp [h]
    · rw [if_neg h]
      congr 1
      rw [Bool.eq_iff_iff]
      simp [h]
theorem rquoted_ev (l : List UInt8) (hl : l.length ≤ 17592186044416) : Ev (fun k => refrainref5_quoted.f k (B l)) (quoB (B l)) := by
  have h := rquo_loop l hl l [] rfl
  refine Ev.congr (fun k => ?_) h
  unfold refrainref5_quoted.f
  rw [if_pos (by simp)]
  rfl
/-! one of a list -/
theorem among_ev (xs : List ByteArray) (hx : xs.length ≤ 1000) (w : ByteArray) : ∀ (ws : List ByteArray) (i : Nat), xs.drop i = ws → i + ws.length = xs.length → Ev (fun k => refrainref5_among.l0 k xs w (i : Int)) (ws.any fun y => w.toList == y.toList)
  | [], i, h, hl => by
    refine Ev.step (f := fun _ => some _) (fun k => ?_) (Ev.now _)
    simp only [List.length_nil] at hl
    simp only [refrainref5_among.l0]
    rw [if_neg (by omega)]
    rfl
  | y :: ws, i, h, hl => by
    simp only [List.length_cons] at hl
    have hr := rdB xs i y ws h
    rw [List.any_cons]
    by_cases e : y.toList = w.toList
    · refine Ev.step (f := fun _ => some _) (fun k => ?_) (Ev.now _)
      simp only [refrainref5_among.l0]
      rw [if_pos (by omega), if_pos (by omega), hr, if_pos e, beq_iff_eq.2 e.symm, Bool.true_or]
    · have hd : xs.drop (i + 1) = ws := by rw [← List.drop_drop, h]; rfl
      have ih := among_ev xs hx w ws (i + 1) hd (by omega)
      rw [show (w.toList == y.toList) = false from beq_eq_false_iff_ne.2 (fun q => e q.symm), Bool.false_or]
      refine Ev.step (fun k => ?_) ih
      simp only [refrainref5_among.l0]
      rw [if_pos (by omega), if_pos (by omega), hr, if_neg e, w1 _ (by omega)]
/-- The signs, as lists. -/
def sgnsL : List (List UInt8) := [[46, 46], [33, 61], [60, 61], [62, 61], [40], [41], [91], [93], [123], [125], [44], [46], [43], [45], [42], [61], [60], [62], [33]]
theorem sgns_L : sgnsB.map (fun y => y.data.toList) = sgnsL := by decide
theorem sgns_any (w : List UInt8) : (sgnsB.any fun y => (B w).toList == y.toList) = sgnsL.any (fun y => w == y) := by
  rw [← sgns_L, List.any_map]
  congr 1
  funext y
  show ((B w).toList == y.toList) = (w == y.data.toList)
  rw [B_toList, tl_data]
theorem one_sgn : ∀ n : Nat, n < 256 → (sgnsL.any fun y => [UInt8.ofNat n] == y) = decide (signL [UInt8.ofNat n] = 1) := by decide +kernel
theorem two_sgn : ∀ n : Nat, n < 256 → ∀ m : Nat, m ∈ [61, 46] → (sgnsL.any fun y => [UInt8.ofNat n, UInt8.ofNat m] == y) = decide (signL [UInt8.ofNat n, UInt8.ofNat m] = 2) := by decide +kernel
theorem zero_sgn : ∀ n : Nat, n < 256 → signL [UInt8.ofNat n, 0] ≤ 1 := by decide +kernel
/-- A text is a sign where its longest sign is all of it. -/
theorem sgn_is (w : List UInt8) : (sgnsL.any fun y => w == y) = (match w with | [] => false | c :: t => decide (signL (c :: t) = (c :: t).length)) := by
  match w with
  | [] => rfl
  | [c] => exact (UInt8.ofNat_toNat (x := c)) ▸ one_sgn c.toNat c.toNat_lt
  | [c, d] =>
    have hc : UInt8.ofNat c.toNat = c := UInt8.ofNat_toNat
    by_cases h61 : d = 61
    · subst h61
      have := two_sgn c.toNat c.toNat_lt 61 (by simp)
      rw [hc] at this
      exact this
    · by_cases h46 : d = 46
      · subst h46
        have := two_sgn c.toNat c.toNat_lt 46 (by simp)
        rw [hc] at this
        exact this
      · have e2 : signL [c, d] = signL [c, 0] := by
          simp only [signL]
          have a61 : ([d].take 1 == [61]) = false := by simp [h61]
          have a46 : ([d].take 1 == [46]) = false := by simp [h46]
          rw [a61, a46]
          rfl
        have hz := zero_sgn c.toNat c.toNat_lt
        rw [hc] at hz
        have : decide (signL [c, d] = [c, d].length) = false := decide_eq_false (by rw [e2]; simp only [List.length_cons, List.length_nil]; omega)
        show _ = decide (signL [c, d] = [c, d].length)
        rw [this]
        simp [sgnsL, h61, h46]
  | c :: d :: e :: t =>
    have h2 := (signL_le (c :: d :: e :: t)).2
    have : decide (signL (c :: d :: e :: t) = (c :: d :: e :: t).length) = false := decide_eq_false (by simp only [List.length_cons]; omega)
    show _ = decide (signL (c :: d :: e :: t) = (c :: d :: e :: t).length)
    rw [this]
    simp [sgnsL]
theorem beg_let : ∀ n : Nat, n < 256 → decide (begN n = 2) = letN n := by decide +kernel
theorem all_take (p : UInt8 → Bool) : ∀ l : List UInt8, ((l.takeWhile p).length = l.length) ↔ l.all p = true
  | [] => by simp
  | c :: t => by
    have ih := all_take p t
    have hle := takeWhile_le p t
    rw [List.takeWhile_cons, List.all_cons]
    cases p c
    · simp
    · simp only [if_true, List.length_cons, Bool.true_and]
      rw [← ih]
      omega
theorem rcan_ev (kind : Int) (l : List UInt8) (at_ : Int) (last : Bool) (hl : l.length ≤ 140737488355328) : Ev (fun k => refrainref5_can.f k kind (B l) at_ last) (canL kind l last) := by
  unfold refrainref5_can.f canL
  by_cases k1 : kind = 1
  · simp only [if_pos k1]
    cases l with
    | nil => exact Ev.now _
    | cons c t =>
      have hs : ((B (c :: t)).size : Int) > 0 := by rw [B_size]; simp
      simp only [if_pos hs]
      by_cases h32 : (c :: t).length ≤ 32
      · have h3 : ((B (c :: t)).size : Int) ≤ 32 := by rw [B_size]; omega
        simp only [if_pos h3, bt_head, letter_n c.toNat c.toNat_lt, Option.bind_some, decide_eq_true h32, Bool.true_and]
        have hb : decide (begL c = 2) = letN c.toNat := beg_let c.toNat c.toNat_lt
        rw [hb]
        cases hlt : letN c.toNat
        · simp only [Bool.false_eq_true, if_false, Bool.false_and]
          exact Ev.now _
        · simp only [if_true, Bool.true_and]
          have hr := run_ev5 (c :: t) hl true goesB (fun c => by show (letN c.toNat || digN c.toNat) = _; rw [Bool.true_and, Bool.or_comm]) (c :: t) [] rfl
          refine Ev.bind hr (Ev.congr (fun k => ?_) (Ev.now _))
          congr 1
          rw [B_size, Bool.eq_iff_iff, beq_iff_eq, decide_eq_true_eq]
          show (((([] : List UInt8).length + runL (c :: t) : Nat) : Int) = _) ↔ _
          simp only [List.length_nil, Nat.zero_add]
          omega
      · have h3 : ¬ ((B (c :: t)).size : Int) ≤ 32 := by rw [B_size]; omega
        simp only [if_neg h3, decide_eq_false h32, Bool.false_and]
        exact Ev.now _
  simp only [if_neg k1]
  by_cases k2 : kind = 2
  · simp only [if_pos k2]
    cases l with
    | nil => exact Ev.now _
    | cons c t =>
      have hs : ((B (c :: t)).size : Int) > 0 := by rw [B_size]; simp
      simp only [if_pos hs]
      have hr := run_ev5 (c :: t) hl false dB (fun c => by show digN c.toNat = _; rw [Bool.false_and, Bool.or_false]) (c :: t) [] rfl
      refine Ev.bind hr ?_
      have ha := all_take dB (c :: t)
      have hda : (c :: t).all dB = (c :: t).all digB := rfl
      rw [hda] at ha
      by_cases hd : (c :: t).all digB = true
      · have e : (((([] : List UInt8).length + ((c :: t).takeWhile dB).length : Nat) : Int) = ((B (c :: t)).size : Int)) := by rw [B_size, ha.2 hd]; simp
        simp only [if_pos e]
        rw [← small_int (c :: t) (by simp) hd]
        exact Ev.bind (small_ev (c :: t)) (Ev.now _)
      · have e : ¬ (((([] : List UInt8).length + ((c :: t).takeWhile dB).length : Nat) : Int) = ((B (c :: t)).size : Int)) := by
          rw [B_size]
          intro q
          exact hd (ha.1 (by simp only [List.length_nil, Nat.zero_add] at q; omega))
        simp only [if_neg e]
        have : isIntB (c :: t) = false := by
          rw [Bool.not_eq_true] at hd
          unfold isIntB
          rw [hd]
          simp
        rw [this]
        exact Ev.now _
  simp only [if_neg k2]
  by_cases k3 : kind = 3
  · simp only [if_pos k3]
    refine Ev.congr (fun k => ?_) (Ev.now _)
    rw [B_size]; congr 2; rw [eq_iff_iff]; omega
  simp only [if_neg k3]
  by_cases k4 : kind = 4
  · simp only [if_pos k4]
    rw [sgns_f]
    simp only [Option.bind_some]
    have h := among_ev sgnsB (by decide) (B l) sgnsB 0 rfl (by simp)
    rw [sgns_any, sgn_is] at h
    exact Ev.bind h (Ev.now _)
  simp only [if_neg k4]
  by_cases k5 : kind = 5
  · simp only [if_pos k5]
    cases l with
    | nil => exact Ev.now _
    | cons c t =>
      refine Ev.congr (fun k => ?_) (Ev.now _)
      rw [if_neg (by rw [B_size]; simp only [List.length_cons]; omega)]
  simp only [if_neg k5]
  exact Ev.now _
end Go.Proofs.YthmcapdakplhdaaDoor.Pu
end

/-! ## text PuR4 -/
section
/- The document's scanner on lists of bytes, part 4: blanks and comments, the whole: it answers as the program's. -/
namespace Go.Proofs.YthmcapdakplhdaaDoor.Pu
open Go Go.RowKit Go.Proofs.YthmcapdakplhdaaDoor.Pr Go.Proofs.YthmcapdakplhdaaDoorW.PrintWords Go.Proofs.YthmcapdakplhdaaDoorW.PrintLast Go.Proofs.YthmcapdakplhdaaDoorW.PrintMore
set_option linter.unusedVariables false
set_option linter.unusedSimpArgs false
theorem begL_blank (c : UInt8) : begL c = 1 ↔ blankN c.toNat = true := by
  have h : ∀ n : Nat, n < 256 → (begN n = 1 ↔ blankN n = true) := by decide +kernel
  exact h _ c.toNat_lt
theorem comment_skip (l : List UInt8) (hl : l.length ≤ 4096) (r : Int) : ∀ (rest pre : List UInt8), pre ++ rest = l →
    Ev (fun k => refrainref5_skip.l0 k (B l) ((pre.length + (rest.length - (rest.dropWhile notLf).length) : Nat) : Int)) r → Ev (fun k => refrainref5_skip.l1 k (B l) (pre.length : Int)) r
  | [], pre, hp, h => by
    refine Ev.step (fun k => ?_) (by simpa using h)
    simp only [refrainref5_skip.l1]
    rw [if_neg (by rw [B_size, ← hp]; simp)]
  | c :: t, pre, hp, h => by
    have hz : l.length = pre.length + (t.length + 1) := by rw [← hp]; simp
    have hb : bt (B l) (pre.length : Int) = (c.toNat : Int) := by rw [← hp]; exact bt_mid pre c t
    rw [List.dropWhile_cons] at h
    by_cases hc : notLf c = true
    · rw [if_pos hc] at h
      have hle := dropWhile_le notLf t
      refine Ev.step (fun k => ?_) (comment_skip l hl r t (pre ++ [c]) (by rw [← hp]; simp) (by
        rw [List.length_append, List.length_singleton]
        rw [List.length_cons] at h
        rw [show pre.length + 1 + (t.length - (t.dropWhile notLf).length) = pre.length + (t.length + 1 - (t.dropWhile notLf).length) by omega]
        exact h))
      simp only [refrainref5_skip.l1]
      rw [if_pos (by rw [B_size]; omega), if_pos (by omega), hb, if_neg (by intro q; simp [notLf] at hc; omega), w1 _ (by omega), List.length_append, List.length_singleton]
    · rw [if_neg hc] at h
      refine Ev.step (fun k => ?_) (by simpa using h)
      simp only [refrainref5_skip.l1]
      rw [if_pos (by rw [B_size]; omega), if_pos (by omega), hb, if_pos (by simp [notLf] at hc; omega)]
theorem take45 (c d : UInt8) (t : List UInt8) : ((c :: d :: t).take 2 == [45, 45]) = (c.toNat == 45 && d.toNat == 45) := by
  have e : ∀ x : UInt8, (x == 45) = (x.toNat == 45) := by
    intro x
    rw [Bool.eq_iff_iff, beq_iff_eq, beq_iff_eq]
    exact ⟨fun h => by rw [h]; rfl, fun h => UInt8.toNat_inj.1 h⟩
  rw [← e, ← e]
  show ([c, d] == [45, 45]) = _
  simp
/-- From blanks and comments on: where the next token stands. -/
def Next (l : List UInt8) (pre rest : List UInt8) : Prop := ∃ pre' rest' : List UInt8, pre' ++ rest' = l ∧ pre.length ≤ pre'.length ∧ Ev (fun k => refrainref5_skip.l0 k (B l) (pre.length : Int)) (pre'.length : Int) ∧
  (rest' = [] ∨ ∃ c t, rest' = c :: t ∧ begL c ≠ 1 ∧ ((c :: t).take 2 == [45, 45]) = false) ∧ (∀ f out, rest.length < f → ∃ f', rest'.length < f' ∧ f' ≤ f ∧ scanL f rest out pre.length = scanL f' rest' out pre'.length)
theorem skip_next (l : List UInt8) (hl : l.length ≤ 4096) : ∀ (n : Nat) (rest pre : List UInt8), pre ++ rest = l → rest.length < n → Next l pre rest
  | 0, rest, pre, h, hn => absurd hn (by omega)
  | n + 1, [], pre, h, hn => by
    have hz : l.length = pre.length := by rw [← h]; simp
    refine ⟨pre, [], h, Nat.le_refl _, ?_, .inl rfl, fun f out hf => ⟨f, hf, Nat.le_refl _, rfl⟩⟩
    refine Ev.step (f := fun _ => some _) (fun k => ?_) (Ev.now _)
    simp only [refrainref5_skip.l0]
    rw [if_neg (by rw [B_size]; omega)]
  | n + 1, c :: t, pre, h, hn => by
    have hz : l.length = pre.length + (t.length + 1) := by rw [← h]; simp
    have hb : bt (B l) (pre.length : Int) = (c.toNat : Int) := by rw [← h]; exact bt_mid pre c t
    have hbl := blank_n c.toNat c.toNat_lt
    rw [List.length_cons] at hn
    by_cases hc : begL c = 1
    · have hcb := (begL_blank c).1 hc
      have h45 : ((c :: t).take 2 == [45, 45]) = false := by
        match t with
        | [] => simp
        | d :: t =>
          rw [take45]
          have : ∀ n : Nat, n < 256 → begN n = 1 → (n == 45) = false := by decide +kernel
          rw [this _ c.toNat_lt hc]; rfl
      obtain ⟨pre', rest', h1, h2, h3, h4, h5⟩ := skip_next l hl n t (pre ++ [c]) (by rw [← h]; simp) (by omega)
      rw [List.length_append, List.length_singleton] at h2 h3 h5
      refine ⟨pre', rest', h1, by omega, ?_, h4, fun f out hf => ?_⟩
      · refine Ev.step (fun k => ?_) h3
        simp only [refrainref5_skip.l0]
        rw [if_pos (by rw [B_size]; omega), if_pos (by omega), hb, hbl, Option.bind_some, if_pos hcb, w1 _ (by omega)]
      · match f, hf with
        | f + 1, hf =>
          rw [List.length_cons] at hf
          obtain ⟨f', g1, g2, g3⟩ := h5 f out (by omega)
          refine ⟨f', g1, by omega, ?_⟩
          rw [scanL, h45, if_neg (by decide), if_pos hc]
          exact g3
    · have hcb : blankN c.toNat = false := by
        rcases h0 : blankN c.toNat with _ | _
        · rfl
        · exact absurd ((begL_blank c).2 h0) hc
      by_cases h45 : ((c :: t).take 2 == [45, 45]) = true
      · match t, h45, h, hz, hn with
        | [], h45, _, _, _ => simp at h45
        | d :: t, h45, h, hz, hn =>
          have h45' := h45
          rw [take45, Bool.and_eq_true, beq_iff_eq, beq_iff_eq] at h45
          have hd := bt_at pre c d t l h
          have hle := dropWhile_le notLf t
          have hnc : notLf c = true := by simp [notLf, h45.1]
          have hnd : notLf d = true := by simp [notLf, h45.2]
          have hdw : (c :: d :: t).dropWhile notLf = t.dropWhile notLf := by rw [List.dropWhile_cons, if_pos hnc, List.dropWhile_cons, if_pos hnd]
          obtain ⟨q, hq, hql⟩ : ∃ q : List UInt8, q ++ t.dropWhile notLf = c :: d :: t ∧ q.length + (t.dropWhile notLf).length = t.length + 2 := by
            refine ⟨c :: d :: t.takeWhile notLf, by rw [List.cons_append, List.cons_append, List.takeWhile_append_dropWhile], ?_⟩
            have := congrArg List.length (List.takeWhile_append_dropWhile (p := notLf) (l := t))
            rw [List.length_append] at this
            simp only [List.length_cons]
            omega
          rw [List.length_cons] at hn hz
          obtain ⟨pre', rest', h1, h2, h3, h4, h5⟩ := skip_next l hl n (t.dropWhile notLf) (pre ++ q) (by rw [List.append_assoc, hq, h]) (by omega)
          rw [List.length_append] at h2 h3 h5
          have hql2 : pre.length + q.length = pre.length + ((c :: d :: t).length - ((c :: d :: t).dropWhile notLf).length) := by
            rw [hdw, List.length_cons, List.length_cons]; omega
          refine ⟨pre', rest', h1, by omega, ?_, h4, fun f out hf => ?_⟩
          · have k1 := comment_skip l hl (pre'.length : Int) (c :: d :: t) pre h (by rw [← hql2]; exact h3)
            have k2 : Ev (fun k => refrainref5_skip.j1 k (B l) (pre.length : Int) false) (pre'.length : Int) := by
              refine Ev.step (fun k => ?_) k1
              simp only [refrainref5_skip.j1]
              rw [if_neg (by decide)]
            refine Ev.step (fun k => ?_) k2
            simp only [refrainref5_skip.l0]
            rw [if_pos (by rw [B_size]; omega), if_pos (by omega), hb, hbl, Option.bind_some, if_neg (by rw [hcb]; decide), if_pos (by omega), w1 _ (by omega), if_neg (by rw [B_size]; omega), if_pos (by omega), if_pos (by rw [B_size]; omega), hd, h45.2]
            rfl
          · match f, hf with
            | f + 1, hf =>
              rw [List.length_cons, List.length_cons] at hf
              obtain ⟨f', g1, g2, g3⟩ := h5 f out (by omega)
              refine ⟨f', g1, by omega, ?_⟩
              rw [scanL, if_pos h45', ← hql2, hdw]
              exact g3
      · rw [Bool.not_eq_true] at h45
        refine ⟨pre, c :: t, h, Nat.le_refl _, ?_, .inr ⟨c, t, rfl, hc, h45⟩, fun f out hf => ⟨f, hf, Nat.le_refl _, rfl⟩⟩
        have hj : Ev (fun k => refrainref5_skip.j1 k (B l) (pre.length : Int) true) (pre.length : Int) := by
          refine Ev.step (f := fun _ => some _) (fun k => ?_) (Ev.now _)
          simp only [refrainref5_skip.j1]
          rw [if_pos trivial]
        refine Ev.step (fun k => ?_) hj
        simp only [refrainref5_skip.l0]
        rw [if_pos (by rw [B_size]; omega), if_pos (by omega), hb, hbl, Option.bind_some, if_neg (by rw [hcb]; decide)]
        by_cases c45 : c.toNat = 45
        · rw [if_pos (by omega), w1 _ (by omega)]
          match t, h45, h, hz with
          | [], _, _, hz => rw [if_pos (by rw [B_size]; simp at hz; omega)]
          | d :: t, h45, h, hz =>
            rw [List.length_cons] at hz
            rw [if_neg (by rw [B_size]; omega), if_pos (by omega), if_pos (by rw [B_size]; omega), bt_at pre c d t l h]
            rw [take45, c45] at h45
            have d45 : (d.toNat == 45) = false := by simpa using h45
            have : (((d.toNat : Nat) : Int) != 45) = true := by
              rw [bne_iff_ne]
              have := beq_eq_false_iff_ne.1 d45
              omega
            rw [this]
        · rw [if_neg (by omega)]
/-- The document's Scan from a place on, behind the blanks. -/
theorem scan_main (l : List UInt8) (hl : l.length ≤ 4096) : ∀ (n f : Nat) (rest pre : List UInt8) (out : List S44), f ≤ n → pre ++ rest = l → rest.length < f → out.length ≤ pre.length →
    Ev (fun k => (refrainref5_skip.l0 k (B l) (pre.length : Int)).bind fun t => refrainref5_Scan.l0 k (B l) out t) (scanL f rest out pre.length)
  | 0, f, rest, pre, out, hfn, h, hf, ho => absurd hf (by omega)
  | n + 1, f, rest, pre, out, hfn, h, hf, ho => by
    obtain ⟨pre', rest', h1, h2, h3, h4, h5⟩ := skip_next l hl (rest.length + 1) rest pre h (by omega)
    obtain ⟨f', g1, g2, g3⟩ := h5 f out hf
    rw [g3]
    refine Ev.bind h3 ?_
    have hz : l.length = pre'.length + rest'.length := by rw [← h1]; simp
    rcases h4 with rfl | ⟨c, t, rfl, hc, h45⟩
    · match f', g1 with
      | f' + 1, _ =>
        rw [scanL]
        refine Ev.step (f := fun _ => some _) (fun k => ?_) (Ev.now _)
        simp only [refrainref5_Scan.l0]
        rw [if_neg (by rw [B_size]; simp at hz; omega), if_pos (by omega), B_size]
        simp at hz
        rw [hz]
        rfl
    · match f', g1, g2 with
      | f' + 1, g1, g2 =>
        rw [List.length_cons] at g1 hz
        have ho' : out.length ≤ pre'.length := by omega
        have h1' := one_ev l hl pre' c t h1 hc
        have stp : ∀ R, Ev (fun k => (if (oneT c t pre'.length).2.2.2.2.2 = 0 then (if out.length < 4398046511104 then ((refrainref5_skip.f k (B l) (oneT c t pre'.length).2.2.2.1).bind fun t595 => (refrainref5_Scan.l0 k (B l) (out ++ [(⟨(oneT c t pre'.length).1, (oneT c t pre'.length).2.1, (oneT c t pre'.length).2.2.1⟩ : S44)]) t595)) else (none)) else (some (([] : List (S44)), (oneT c t pre'.length).2.2.2.2.1, (oneT c t pre'.length).2.2.2.2.2)))) R → Ev (fun k => refrainref5_Scan.l0 k (B l) out (pre'.length : Int)) R := by
          intro R hR
          refine Ev.step (f := fun k => (refrainref5_one.f k (B l) (pre'.length : Int)).bind fun bt585 => (if bt585.2.2.2.2.2 = 0 then (if out.length < 4398046511104 then ((refrainref5_skip.f k (B l) bt585.2.2.2.1).bind fun t595 => (refrainref5_Scan.l0 k (B l) (out ++ [(⟨bt585.1, bt585.2.1, bt585.2.2.1⟩ : S44)]) t595)) else (none)) else (some (([] : List (S44)), bt585.2.2.2.2.1, bt585.2.2.2.2.2)))) (fun k => ?_) (Ev.bind h1' hR)
          simp only [refrainref5_Scan.l0]
          rw [if_pos (by rw [B_size]; omega)]
        -- a token, then on
        have on : ∀ (kd : Int) (tx : ByteArray) (m : Nat), 1 ≤ m → m ≤ t.length + 1 → oneT c t pre'.length = (kd, tx, (pre'.length : Int), ((pre'.length + m : Nat) : Int), 0, 0) →
            Ev (fun k => refrainref5_Scan.l0 k (B l) out (pre'.length : Int)) (scanL f' ((c :: t).drop m) (out ++ [⟨kd, tx, (pre'.length : Int)⟩]) (pre'.length + m)) := by
          intro kd tx m hm hm2 he
          refine stp _ ?_
          rw [he]
          have hp : (pre' ++ (c :: t).take m) ++ (c :: t).drop m = l := by rw [List.append_assoc, List.take_append_drop, h1]
          have hlen : (pre' ++ (c :: t).take m).length = pre'.length + m := by rw [List.length_append, List.length_take, List.length_cons]; omega
          have ih := scan_main l hl n f' ((c :: t).drop m) (pre' ++ (c :: t).take m) (out ++ [⟨kd, tx, (pre'.length : Int)⟩]) (by omega) hp (by rw [List.length_drop, List.length_cons]; omega) (by rw [List.length_append, List.length_singleton, hlen]; omega)
          rw [hlen] at ih
          refine Ev.congr (fun k => ?_) ih
          show (if (0 : Int) = 0 then _ else _) = _
          rw [if_pos rfl, if_pos (by omega)]
          rfl
        have stop : ∀ (a e : Int), e ≠ 0 → oneT c t pre'.length = (0, ⟨#[]⟩, 0, 0, a, e) → Ev (fun k => refrainref5_Scan.l0 k (B l) out (pre'.length : Int)) (([] : List S44), a, e) := by
          intro a e he h0
          refine stp _ ?_
          rw [h0]
          refine Ev.congr (fun k => ?_) (Ev.now _)
          show (if e = 0 then _ else _) = _
          rw [if_neg he]
        rw [scanL, h45, if_neg (by decide), if_neg hc]
        have hone : oneT c t pre'.length = oneT c t pre'.length := rfl
        conv at hone => rhs; unfold oneT
        have hrl := runL_le (c :: t)
        rw [List.length_cons] at hrl
        by_cases b2 : begL c = 2
        · rw [if_pos b2] at hone ⊢
          have hpos : 1 ≤ runL (c :: t) := by
            unfold runL
            rw [List.takeWhile_cons, if_pos (beg_goes c (.inl b2))]
            simp
          by_cases h32 : 32 < runL (c :: t)
          · rw [if_pos h32] at hone ⊢
            exact stop _ _ (by decide) hone
          · rw [if_neg h32] at hone ⊢
            exact on _ _ _ hpos hrl hone
        · rw [if_neg b2] at hone ⊢
          by_cases b3 : begL c = 3
          · rw [if_pos b3] at hone ⊢
            have hpos : 1 ≤ runL (c :: t) := by
              unfold runL
              rw [List.takeWhile_cons, if_pos (beg_goes c (.inr b3))]
              simp
            by_cases hi : isIntB ((c :: t).take (runL (c :: t))) = true
            · rw [if_pos hi] at hone ⊢
              exact on _ _ _ hpos hrl hone
            · rw [if_neg hi] at hone ⊢
              exact stop _ _ (by decide) hone
          · rw [if_neg b3] at hone ⊢
            by_cases b4 : begL c = 4
            · rw [if_pos b4] at hone ⊢
              unfold strT at hone
              by_cases h0 : (unqL (t.length + 1) t [] (pre'.length + 1) pre'.length).2.2 = 0
              · rw [if_pos h0] at hone ⊢
                obtain ⟨m, hm, hm1, hm2⟩ := unq_end (t.length + 1) t [] (pre'.length + 1) pre'.length (by omega) h0
                rw [hm] at hone ⊢
                rw [Int.toNat_natCast]
                have := on 3 (unqL (t.length + 1) t [] (pre'.length + 1) pre'.length).1 (m - pre'.length) (by omega) (by omega) (by rw [hone, show pre'.length + (m - pre'.length) = m by omega])
                rw [show pre'.length + (m - pre'.length) = m by omega] at this
                exact this
              · rw [if_neg h0] at hone ⊢
                exact stop _ _ h0 hone
            · rw [if_neg b4] at hone ⊢
              by_cases b5 : begL c = 5
              · rw [if_pos b5] at hone ⊢
                have hpos := signL_pos c t (beg_sign c b5)
                have hsl := (signL_le (c :: t)).1
                rw [List.length_cons] at hsl
                exact on _ _ _ hpos hsl hone
              · rw [if_neg b5] at hone ⊢
                exact stop _ _ (by decide) hone
/-- The document's Scan is the program's. -/
theorem rscan_ev (l : List UInt8) : Ev (fun k => refrainref5_Scan.f k (B l)) (scan l) := by
  unfold scan
  by_cases hl : 4096 < l.length
  · rw [if_pos hl]
    refine Ev.congr (fun k => ?_) (Ev.now _)
    unfold refrainref5_Scan.f
    rw [if_pos (by rw [B_size]; omega)]
  · rw [if_neg hl]
    have := scan_main l (by omega) (l.length + 1) (l.length + 1) l [] [] (Nat.le_refl _) rfl (by omega) (by simp)
    refine Ev.congr (fun k => ?_) this
    unfold refrainref5_Scan.f
    rw [if_neg (by rw [B_size]; omega)]
    rfl
end Go.Proofs.YthmcapdakplhdaaDoor.Pu
end

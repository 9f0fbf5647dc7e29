-- printed by a patched copy of the kit's print, for this seat
import Derived.Test.YthhpeeckiggpaaaDoorPrx0
import Derived.Test.YthhpeeckiggpaaaDoorPrx2
import Derived.Test.YthhpeeckiggpaaaDoorPrx6
import Derived.Test.YthhpeeckiggpaaaDoorPrx8
import Derived.Test.YthhpeeckiggpaaaDoorPrx16
namespace Go.Proofs.YthhpeeckiggpaaaDoor.Pr
open Go.RowKit Go.Proofs.YthhpeeckiggpaaaDoorW.PrintWords Go.Proofs.YthhpeeckiggpaaaDoorW.PrintLast Go.Proofs.YthhpeeckiggpaaaDoorW.PrintMore
attribute [local go_sem] max2_int min2_int max_two min_two max_three min_three max_four min_four   -- for this text's walks alone
attribute [local go_sem high] Go.Proofs.YthhpeeckiggpaaaDoor.isSome_setCell
set_option maxRecDepth 100000
set_option linter.unusedVariables false
set_option linter.unusedSimpArgs false

/-! ### value_Unary: function 22 -/
def value_Unary.f (k : Nat) (a0 : Int) (a1_0 : Int) (a1_1 : Int) (a1_2 : ByteArray) (a1_3 : Bool) : Option (Int × Int × ByteArray × Bool × Int) := (value_refusal.f k a0 1 2 (([(⟨a1_0, a1_1, a1_2, a1_3⟩ : S26)] : List (S26)))).bind fun t466 => (if t466 = 0 then (if a0 = 1 then ((value_number.f (wrap64 (-a1_1))).bind fun bt467 => (some (bt467.1, bt467.2.1, bt467.2.2.1, bt467.2.2.2, 0))) else ((value_truth.f (!a1_3)).bind fun bt471 => (some (bt471.1, bt471.2.1, bt471.2.2.1, bt471.2.2.2, 0)))) else (some (0, 0, (⟨#[]⟩ : ByteArray), false, t466)))
set_option maxRecDepth 100000 in
theorem value_Unary.mono : ∀ a0 a1 a2 a3 a4 k, LeO (value_Unary.f k a0 a1 a2 a3 a4) (value_Unary.f (k + 1) a0 a1 a2 a3 a4) := by
  intro a0 a1 a2 a3 a4 k
  unfold value_Unary.f
  repeat' first
      | (with_reducible exact value_refusal.mono _ _ _ _ _)
      | (with_reducible exact LeO.refl _)
      | (with_reducible exact LeO.none _)
      | (with_reducible refine LeO.ite ?_ ?_)
      | (with_reducible refine LeO.bind ?_ (fun _ => ?_))
      | exact value_refusal.mono _ _ _ _ _
      | exact LeO.none _
      | refine LeO.ite ?_ ?_
      | refine LeO.bind ?_ (fun _ => ?_)
set_option maxHeartbeats 8000000 in
set_option maxRecDepth 100000 in
theorem value_Unary.calls (k : Nat) (a0 : Int) (a1_0 : Int) (a1_1 : Int) (a1_2 : ByteArray) (a1_3 : Bool) (r1 : Int) (r2 : Int) (r3 : ByteArray) (r4 : Bool) (r5 : Int) (w : World) (HL_LG0 : Aside0 (LG0 w)) (h : value_Unary.f k a0 a1_0 a1_1 a1_2 a1_3 = some (r1, r2, r3, r4, r5)) :
    Calls Tryd.prog 22 #[.int .i64 a0, .agg #[.int .i64 a1_0, .int .i64 a1_1, .string a1_2, .bool a1_3]] w fun e w' => e = .returned (.tuple #[.agg #[.int .i64 r1, .int .i64 r2, .string r3, .bool r4], .int .i64 r5]) ∧ Below w.heap.size w w' := by
  have hu26 := Tryd.underlying26
  have HB := Aside0.mk (Below.refl w.heap.size w)
  have H : ((value_refusal.f k a0 1 2 (([(⟨a1_0, a1_1, a1_2, a1_3⟩ : S26)] : List (S26)))).bind fun t466 => (if t466 = 0 then (if a0 = 1 then ((value_number.f (wrap64 (-a1_1))).bind fun bt467 => (some (bt467.1, bt467.2.1, bt467.2.2.1, bt467.2.2.2, 0))) else ((value_truth.f (!a1_3)).bind fun bt471 => (some (bt471.1, bt471.2.1, bt471.2.2.1, bt471.2.2.2, 0)))) else (some (0, 0, (⟨#[]⟩ : ByteArray), false, t466)))) = some (r1, r2, r3, r4, r5) := h
  clear h
  obtain ⟨y463, hy463⟩ : ∃ y_ : List (S26), y_ = (([(⟨a1_0, a1_1, a1_2, a1_3⟩ : S26)] : List (S26))) := ⟨_, rfl⟩
  replace H : ((value_refusal.f k a0 1 2 y463).bind fun t466 => (if t466 = 0 then (if a0 = 1 then ((value_number.f (wrap64 (-a1_1))).bind fun bt467 => (some (bt467.1, bt467.2.1, bt467.2.2.1, bt467.2.2.2, 0))) else ((value_truth.f (!a1_3)).bind fun bt471 => (some (bt471.1, bt471.2.1, bt471.2.2.1, bt471.2.2.2, 0)))) else (some (0, 0, (⟨#[]⟩ : ByteArray), false, t466)))) = some (r1, r2, r3, r4, r5) := by first | (rw [hy463]; with_reducible exact H) | (have H2_ := (Option.bind_some _ _).symm.trans H; rw [hy463]; with_reducible exact H2_) | (have H2_ := (Option.bind_some _ _).symm.trans H; with_reducible exact H2_) | with_reducible exact H | (rw [hy463]; exact H) | exact H
  have Ny463 := Aside0.mk hy463
  clear hy463
  replace H := Option.bind_eq_some_iff.mp H
  obtain ⟨t466, A30, H⟩ := H
  replace H : (if t466 = 0 then (if a0 = 1 then ((value_number.f (wrap64 (-a1_1))).bind fun bt467 => (some (bt467.1, bt467.2.1, bt467.2.2.1, bt467.2.2.2, 0))) else ((value_truth.f (!a1_3)).bind fun bt471 => (some (bt471.1, bt471.2.1, bt471.2.2.1, bt471.2.2.2, 0)))) else (some (0, 0, (⟨#[]⟩ : ByteArray), false, t466))) = some (r1, r2, r3, r4, r5) := H
  have A3 := Aside0.mk A30
  clear A30
  by_cases c4 : t466 = 0
  · rw [if_pos c4] at H
    have c4b0 : (t466 == 0) = true := beq_iff_eq.mpr c4
    have c4b1 : (t466 != 0) = false := bne_eq_false_iff_eq.mpr c4
    clear c4
    by_cases c5 : a0 = 1
    · rw [if_pos c5] at H
      have c5b0 : (a0 == 1) = true := beq_iff_eq.mpr c5
      have c5b1 : (a0 != 1) = false := bne_eq_false_iff_eq.mpr c5
      clear c5
      replace H := Option.bind_eq_some_iff.mp H
      obtain ⟨⟨t467, t468, t469, t470⟩, A60, H⟩ := H
      replace H : (some (t467, t468, t469, t470, 0)) = some (r1, r2, r3, r4, r5) := H
      have A6 := Aside0.mk A60
      clear A60
      simp only [Option.some.injEq, Prod.mk.injEq] at H
      obtain ⟨rfl, rfl, rfl, rfl, rfl⟩ := H
      go_enter Tryd.func22, Tryd.ntmps22
      go_wp2_with (first | ((with_reducible refine gate_dst (N := 3) rfl ?_); refine box_event ?hg (N := 3) ?hd (cs := #[.int .i64 a1_0, .int .i64 a1_1, .string a1_2, .bool a1_3]) (t := 26) ?hr ?_; (case hd => rfl); (case hg => rfl); (case hr => first | (go_simp; done) | (go_simp; rfl)); intro gb461 hg w7 hbox hb; have n0_ := Aside0.mk (below_step (by repeat (first | (with_reducible first | exact HB.out | apply below_alloc | apply pw_below_drewN | apply below_drew1) | exact HB.out)) hb); have n1_ := Aside0.mk (hbox); have n2_ := Aside0.mk ((by rw [hg]; exact (below_size (by repeat (first | (with_reducible first | exact HB.out | apply below_alloc | apply pw_below_drewN | apply below_drew1) | exact HB.out))) : w.heap.size ≤ gb461)); have n3_ := Aside0.mk ((by rw [hg]; exact (below_size (by repeat (first | (with_reducible first | exact HB.out | apply below_alloc | apply pw_below_drewN | apply below_drew1) | exact HB.out))) : w.heap.size ≤ gb461)); clear HB; have HB := n0_; have BK461 := n1_; have GW461 := n2_; have GE461 := n3_; clear n0_ n1_ n2_ n3_; clear hb hbox hg) | ((with_reducible refine gate_dst (N := 4) rfl ?_); refine box_event ?hg (N := 4) ?hd (cs := #[.int .i64 0, .int .i64 0, .string (⟨#[]⟩ : ByteArray), .bool false]) (t := 26) ?hr ?_; (case hd => rfl); (case hg => rfl); (case hr => first | (go_simp; done) | (go_simp; rfl)); intro gb462 hg w8 hbox hb; have n0_ := Aside0.mk (blk_below (g := gb461) (o := .cells #[.int .i64 a1_0, .int .i64 a1_1, .string a1_2, .bool a1_3] 26 (0, 0)) (by (with_reducible repeat (first | refine blk_drewN ?_ _ | refine blk_drew ?_ | refine blk_alloc ?_ _)); exact BK461.out) hb); have n1_ := Aside0.mk (below_step (by repeat (first | (with_reducible first | exact HB.out | apply below_alloc | apply pw_below_drewN | apply below_drew1 | refine below_set ?_ GE461.out) | exact HB.out)) hb); have n2_ := Aside0.mk (hbox); have n3_ := Aside0.mk ((by rw [hg]; exact (below_size (by repeat (first | (with_reducible first | exact HB.out | apply below_alloc | apply pw_below_drewN | apply below_drew1 | refine below_set ?_ GE461.out) | exact HB.out))) : w.heap.size ≤ gb462)); have n4_ := Aside0.mk ((by rw [hg]; exact (below_size (by repeat (first | (with_reducible first | exact HB.out | apply below_alloc | apply pw_below_drewN | apply below_drew1 | refine below_set ?_ GE461.out) | exact HB.out))) : w.heap.size ≤ gb462)); have n5_ := Aside0.mk ((by rw [hg]; exact Nat.ne_of_lt (blk_lt (g := gb461) (o := .cells #[.int .i64 a1_0, .int .i64 a1_1, .string a1_2, .bool a1_3] 26 (0, 0)) (by (with_reducible repeat (first | refine blk_drewN ?_ _ | refine blk_drew ?_ | refine blk_alloc ?_ _)); exact BK461.out)) : gb461 ≠ gb462)); have n6_ := Aside0.mk ((by rw [hg]; exact Nat.ne_of_gt (blk_lt (g := gb461) (o := .cells #[.int .i64 a1_0, .int .i64 a1_1, .string a1_2, .bool a1_3] 26 (0, 0)) (by (with_reducible repeat (first | refine blk_drewN ?_ _ | refine blk_drew ?_ | refine blk_alloc ?_ _)); exact BK461.out)) : gb462 ≠ gb461)); clear BK461; clear HB; have BK461 := n0_; have HB := n1_; have BK462 := n2_; have GW462 := n3_; have GE462 := n4_; have NB461_462 := n5_; have NB462_461 := n6_; clear n0_ n1_ n2_ n3_ n4_ n5_ n6_; clear hb hbox hg; have hnb9 := NB461_462.out; have hnc9 := NB462_461.out; have hcz10_0 : w8.cell? ⟨gb461, 0, none⟩ = some (.int .i64 a1_0) := (blk_cell BK461.out 0).trans rfl; have hcz10_1 : w8.cell? ⟨gb461, 1, none⟩ = some (.int .i64 a1_1) := (blk_cell BK461.out 1).trans rfl; have hcz10_2 : w8.cell? ⟨gb461, 2, none⟩ = some (.string a1_2) := (blk_cell BK461.out 2).trans rfl; have hcz10_3 : w8.cell? ⟨gb461, 3, none⟩ = some (.bool a1_3) := (blk_cell BK461.out 3).trans rfl; have hfz10_0 := blk_frozen BK461.out 0; have hfz10_1 := blk_frozen BK461.out 1; have hfz10_2 := blk_frozen BK461.out 2; have hfz10_3 := blk_frozen BK461.out 3) | ((with_reducible refine gate_dst (N := 9) rfl ?_); refine Kd.R_lit k26 _ 26 ?hg (N := 9) ?hd (xs := ([(⟨a1_0, a1_1, a1_2, a1_3⟩ : S26)] : List (S26))) (inner := [.int .i64 a1_0, .int .i64 a1_1, .string a1_2, .bool a1_3]) (ok := fun _ => True) (okp := fun _ => True) ?hr ?hp (fun _ hk => hk) trivial (Below.refl _ _) (Nat.le_refl _) (by simp) ?_; (case hd => rfl); (case hg => rfl); (case hr => first | (go_simp; done) | (go_simp; rfl)); (case hp => exact (Reps.c4 (show Kd.M k26 _ _ _ (⟨a1_0, a1_1, a1_2, a1_3⟩ : S26) [.int .i64 a1_0, .int .i64 a1_1, .string a1_2, .bool a1_3] from (k26_mkM _ _ _ (⟨a1_0, a1_1, a1_2, a1_3⟩ : S26) )) (Reps.none _ _))); intro v464 w11 ho12 hb hg_ hnew_; clear hg_ hnew_; (first | rw [← Ny463.out] at ho12 | (simp only [Int.reduceToNat] at ho12; rw [← Ny463.out] at ho12)); have n0_ := Aside0.mk (Kd.R_lower (Kd.R_newB (Kd.R_newB ho12 (g := gb461) (o := .cells #[.int .i64 a1_0, .int .i64 a1_1, .string a1_2, .bool a1_3] 26 (0, 0)) (by (with_reducible repeat (first | refine blk_drewN ?_ _ | refine blk_drew ?_ | refine blk_alloc ?_ _)); exact BK461.out)) (g := gb462) (o := .cells #[.int .i64 0, .int .i64 0, .string (⟨#[]⟩ : ByteArray), .bool false] 26 (0, 0)) (by (with_reducible repeat (first | refine blk_drewN ?_ _ | refine blk_drew ?_ | refine blk_alloc ?_ _)); exact BK462.out)) (below_size (by repeat (first | (with_reducible first | exact HB.out | apply below_alloc | apply pw_below_drewN | apply below_drew1 | refine below_set ?_ GE461.out | refine below_set ?_ GE462.out) | exact HB.out)))); have n1_ := Aside0.mk (blk_below (g := gb461) (o := .cells #[.int .i64 a1_0, .int .i64 a1_1, .string a1_2, .bool a1_3] 26 (0, 0)) (by (with_reducible repeat (first | refine blk_drewN ?_ _ | refine blk_drew ?_ | refine blk_alloc ?_ _)); exact BK461.out) hb); have n2_ := Aside0.mk (blk_below (g := gb462) (o := .cells #[.int .i64 0, .int .i64 0, .string (⟨#[]⟩ : ByteArray), .bool false] 26 (0, 0)) (by (with_reducible repeat (first | refine blk_drewN ?_ _ | refine blk_drew ?_ | refine blk_alloc ?_ _)); exact BK462.out) hb); have n3_ := Aside0.mk (below_step (by repeat (first | (with_reducible first | exact HB.out | apply below_alloc | apply pw_below_drewN | apply below_drew1 | refine below_set ?_ GE461.out | refine below_set ?_ GE462.out) | exact HB.out)) hb); clear BK461; clear BK462; clear HB; have HO465 := n0_; have BK461 := n1_; have BK462 := n2_; have HB := n3_; clear n0_ n1_ n2_ n3_; clear hb ho12; obtain ⟨Ao13, co13, eo13⟩ := Kd.R_slice HO465.out; subst eo13) | ((with_reducible refine gate_callee (f := 45) rfl ?_); refine goesL_ (some 10) rfl rfl Tryd.func45 (by kernel_rfl) rfl #[.int .i64 a0, .int .i64 1, .int .i64 2, .slice Ao13 y463.length co13] rfl (by (try simp only [List.map_toArray, List.map_cons, List.map_nil]); first | done | rfl | (simp only [List.length_drop, List.length_take]; rfl)) ?_; (with_reducible refine (value_refusal.calls k a0 1 2 _ _ y463 t466 _ ?side1 ?side2 ?side3 A3.out).mono ?_); (case side1 => repeat (first | exact (Kd.R_reads' HO465.out).2.2 | (with_reducible refine Kd.C_alloc ?_ _) | (with_reducible refine Kd.C_drewN ?_ _) | (with_reducible refine Kd.C_drew ?_))); (case side2 => exact (Kd.R_reads' HO465.out).2.1); (case side3 => first | (with_reducible exact HL_LG0) | exact ⟨LG0.below HL_LG0.out (by repeat (first | (with_reducible first | exact HB.out | apply below_alloc | apply pw_below_drewN | apply below_drew1 | refine below_set ?_ GE461.out | refine below_set ?_ GE462.out) | exact HB.out))⟩); rintro e w14 ⟨rfl, hb⟩; refine ⟨_, rfl, ?_⟩; have n0_ := Aside0.mk (Kd.R_below (by (with_reducible repeat (first | apply Kd.R_alloc | apply Kd.R_drewN | apply Kd.R_drew)); exact HO465.out) hb); have n1_ := Aside0.mk (blk_below (g := gb461) (o := .cells #[.int .i64 a1_0, .int .i64 a1_1, .string a1_2, .bool a1_3] 26 (0, 0)) (by (with_reducible repeat (first | refine blk_drewN ?_ _ | refine blk_drew ?_ | refine blk_alloc ?_ _)); exact BK461.out) hb); have n2_ := Aside0.mk (blk_below (g := gb462) (o := .cells #[.int .i64 0, .int .i64 0, .string (⟨#[]⟩ : ByteArray), .bool false] 26 (0, 0)) (by (with_reducible repeat (first | refine blk_drewN ?_ _ | refine blk_drew ?_ | refine blk_alloc ?_ _)); exact BK462.out) hb); have n3_ := Aside0.mk (below_step (by repeat (first | (with_reducible first | exact HB.out | apply below_alloc | apply pw_below_drewN | apply below_drew1 | refine below_set ?_ GE461.out | refine below_set ?_ GE462.out) | exact HB.out)) hb); clear HO465; clear BK461; clear BK462; clear HB; have HO465 := n0_; have BK461 := n1_; have BK462 := n2_; have HB := n3_; clear n0_ n1_ n2_ n3_; (try clear hb); (try clear hb2); (try clear hk); (try clear hi); have hcz15_0 : w14.cell? ⟨gb461, 0, none⟩ = some (.int .i64 a1_0) := (blk_cell BK461.out 0).trans rfl; have hcz15_1 : w14.cell? ⟨gb461, 1, none⟩ = some (.int .i64 a1_1) := (blk_cell BK461.out 1).trans rfl; have hcz15_2 : w14.cell? ⟨gb461, 2, none⟩ = some (.string a1_2) := (blk_cell BK461.out 2).trans rfl; have hcz15_3 : w14.cell? ⟨gb461, 3, none⟩ = some (.bool a1_3) := (blk_cell BK461.out 3).trans rfl; have hfz15_0 := blk_frozen BK461.out 0; have hfz15_1 := blk_frozen BK461.out 1; have hfz15_2 := blk_frozen BK461.out 2; have hfz15_3 := blk_frozen BK461.out 3) | ((with_reducible refine gate_callee (f := 26) rfl ?_); refine goesL_ (some 20) rfl rfl Tryd.func26 (by kernel_rfl) rfl #[.int .i64 (wrap64 (-a1_1))] rfl (by (try simp only [List.map_toArray, List.map_cons, List.map_nil]); first | done | rfl | (simp only [List.length_drop, List.length_take]; rfl)) ?_; (with_reducible refine (value_number.calls (wrap64 (-a1_1)) t467 t468 t469 t470 _ A6.out).mono ?_); rintro e w16 ⟨rfl, hb⟩; refine ⟨_, rfl, ?_⟩; have n0_ := Aside0.mk (Kd.R_below (by (with_reducible repeat (first | apply Kd.R_alloc | apply Kd.R_drewN | apply Kd.R_drew)); exact HO465.out) hb); have n1_ := Aside0.mk (blk_below (g := gb461) (o := .cells #[.int .i64 a1_0, .int .i64 a1_1, .string a1_2, .bool a1_3] 26 (0, 0)) (by (with_reducible repeat (first | refine blk_drewN ?_ _ | refine blk_drew ?_ | refine blk_alloc ?_ _)); exact BK461.out) hb); have n2_ := Aside0.mk (blk_below (g := gb462) (o := .cells #[.int .i64 0, .int .i64 0, .string (⟨#[]⟩ : ByteArray), .bool false] 26 (0, 0)) (by (with_reducible repeat (first | refine blk_drewN ?_ _ | refine blk_drew ?_ | refine blk_alloc ?_ _)); exact BK462.out) hb); have n3_ := Aside0.mk (below_step (by repeat (first | (with_reducible first | exact HB.out | apply below_alloc | apply pw_below_drewN | apply below_drew1 | refine below_set ?_ GE461.out | refine below_set ?_ GE462.out) | exact HB.out)) hb); clear HO465; clear BK461; clear BK462; clear HB; have HO465 := n0_; have BK461 := n1_; have BK462 := n2_; have HB := n3_; clear n0_ n1_ n2_ n3_; (try clear hb); (try clear hb2); (try clear hk); (try clear hi); have hcz17_0 : w16.cell? ⟨gb462, 0, none⟩ = some (.int .i64 0) := (blk_cell BK462.out 0).trans rfl; have hcz17_1 : w16.cell? ⟨gb462, 1, none⟩ = some (.int .i64 0) := (blk_cell BK462.out 1).trans rfl; have hcz17_2 : w16.cell? ⟨gb462, 2, none⟩ = some (.string (⟨#[]⟩ : ByteArray)) := (blk_cell BK462.out 2).trans rfl; have hcz17_3 : w16.cell? ⟨gb462, 3, none⟩ = some (.bool false) := (blk_cell BK462.out 3).trans rfl; have hfz17_0 := blk_frozen BK462.out 0; have hfz17_1 := blk_frozen BK462.out 1; have hfz17_2 := blk_frozen BK462.out 2; have hfz17_3 := blk_frozen BK462.out 3))
      refine bodyPost_ret (results_ct rfl _ _ gb462 26 #[.int .i64 t467, .int .i64 t468, .string t469, .bool t470] (0, 0) _ rfl (by (with_reducible repeat (first | refine blk_drewN ?_ _ | refine blk_drew ?_ | refine blk_alloc ?_ _)); refine blk_put (cs := #[.int .i64 t467, .int .i64 t468, .string t469, .bool false]) ?_ 3 _ rfl; (with_reducible repeat (first | refine blk_drewN ?_ _ | refine blk_drew ?_ | refine blk_alloc ?_ _)); refine blk_put (cs := #[.int .i64 t467, .int .i64 t468, .string (⟨#[]⟩ : ByteArray), .bool false]) ?_ 2 _ rfl; (with_reducible repeat (first | refine blk_drewN ?_ _ | refine blk_drew ?_ | refine blk_alloc ?_ _)); refine blk_put (cs := #[.int .i64 t467, .int .i64 0, .string (⟨#[]⟩ : ByteArray), .bool false]) ?_ 1 _ rfl; (with_reducible repeat (first | refine blk_drewN ?_ _ | refine blk_drew ?_ | refine blk_alloc ?_ _)); refine blk_put (cs := #[.int .i64 0, .int .i64 0, .string (⟨#[]⟩ : ByteArray), .bool false]) ?_ 0 _ rfl; (with_reducible repeat (first | refine blk_drewN ?_ _ | refine blk_drew ?_ | refine blk_alloc ?_ _)); exact BK462.out) Tryd.underlying26 rfl (by kernel_rfl)) rfl ?_
      exact ⟨by first | rfl | (simp [errW_none, errW_some] <;> rfl) | (simp [*, errW_none, errW_some] <;> rfl), by repeat (first | (with_reducible first | exact HB.out | apply below_alloc | apply pw_below_drewN | apply below_drew1 | refine below_set ?_ GE461.out | refine below_set ?_ GE462.out) | exact HB.out)⟩
    · rw [if_neg c5] at H
      have c5b0 : (a0 == 1) = false := beq_eq_false_iff_ne.mpr c5
      have c5b1 : (a0 != 1) = true := bne_iff_ne.mpr c5
      replace H := Option.bind_eq_some_iff.mp H
      obtain ⟨⟨t471, t472, t473, t474⟩, A180, H⟩ := H
      replace H : (some (t471, t472, t473, t474, 0)) = some (r1, r2, r3, r4, r5) := H
      have A18 := Aside0.mk A180
      clear A180
      simp only [Option.some.injEq, Prod.mk.injEq] at H
      obtain ⟨rfl, rfl, rfl, rfl, rfl⟩ := H
      go_enter Tryd.func22, Tryd.ntmps22
      go_wp2_with (first | ((with_reducible refine gate_dst (N := 3) rfl ?_); refine box_event ?hg (N := 3) ?hd (cs := #[.int .i64 a1_0, .int .i64 a1_1, .string a1_2, .bool a1_3]) (t := 26) ?hr ?_; (case hd => rfl); (case hg => rfl); (case hr => first | (go_simp; done) | (go_simp; rfl)); intro gb461 hg w19 hbox hb; have n0_ := Aside0.mk (below_step (by repeat (first | (with_reducible first | exact HB.out | apply below_alloc | apply pw_below_drewN | apply below_drew1) | exact HB.out)) hb); have n1_ := Aside0.mk (hbox); have n2_ := Aside0.mk ((by rw [hg]; exact (below_size (by repeat (first | (with_reducible first | exact HB.out | apply below_alloc | apply pw_below_drewN | apply below_drew1) | exact HB.out))) : w.heap.size ≤ gb461)); have n3_ := Aside0.mk ((by rw [hg]; exact (below_size (by repeat (first | (with_reducible first | exact HB.out | apply below_alloc | apply pw_below_drewN | apply below_drew1) | exact HB.out))) : w.heap.size ≤ gb461)); clear HB; have HB := n0_; have BK461 := n1_; have GW461 := n2_; have GE461 := n3_; clear n0_ n1_ n2_ n3_; clear hb hbox hg) | ((with_reducible refine gate_dst (N := 4) rfl ?_); refine box_event ?hg (N := 4) ?hd (cs := #[.int .i64 0, .int .i64 0, .string (⟨#[]⟩ : ByteArray), .bool false]) (t := 26) ?hr ?_; (case hd => rfl); (case hg => rfl); (case hr => first | (go_simp; done) | (go_simp; rfl)); intro gb462 hg w20 hbox hb; have n0_ := Aside0.mk (blk_below (g := gb461) (o := .cells #[.int .i64 a1_0, .int .i64 a1_1, .string a1_2, .bool a1_3] 26 (0, 0)) (by (with_reducible repeat (first | refine blk_drewN ?_ _ | refine blk_drew ?_ | refine blk_alloc ?_ _)); exact BK461.out) hb); have n1_ := Aside0.mk (below_step (by repeat (first | (with_reducible first | exact HB.out | apply below_alloc | apply pw_below_drewN | apply below_drew1 | refine below_set ?_ GE461.out) | exact HB.out)) hb); have n2_ := Aside0.mk (hbox); have n3_ := Aside0.mk ((by rw [hg]; exact (below_size (by repeat (first | (with_reducible first | exact HB.out | apply below_alloc | apply pw_below_drewN | apply below_drew1 | refine below_set ?_ GE461.out) | exact HB.out))) : w.heap.size ≤ gb462)); have n4_ := Aside0.mk ((by rw [hg]; exact (below_size (by repeat (first | (with_reducible first | exact HB.out | apply below_alloc | apply pw_below_drewN | apply below_drew1 | refine below_set ?_ GE461.out) | exact HB.out))) : w.heap.size ≤ gb462)); have n5_ := Aside0.mk ((by rw [hg]; exact Nat.ne_of_lt (blk_lt (g := gb461) (o := .cells #[.int .i64 a1_0, .int .i64 a1_1, .string a1_2, .bool a1_3] 26 (0, 0)) (by (with_reducible repeat (first | refine blk_drewN ?_ _ | refine blk_drew ?_ | refine blk_alloc ?_ _)); exact BK461.out)) : gb461 ≠ gb462)); have n6_ := Aside0.mk ((by rw [hg]; exact Nat.ne_of_gt (blk_lt (g := gb461) (o := .cells #[.int .i64 a1_0, .int .i64 a1_1, .string a1_2, .bool a1_3] 26 (0, 0)) (by (with_reducible repeat (first | refine blk_drewN ?_ _ | refine blk_drew ?_ | refine blk_alloc ?_ _)); exact BK461.out)) : gb462 ≠ gb461)); clear BK461; clear HB; have BK461 := n0_; have HB := n1_; have BK462 := n2_; have GW462 := n3_; have GE462 := n4_; have NB461_462 := n5_; have NB462_461 := n6_; clear n0_ n1_ n2_ n3_ n4_ n5_ n6_; clear hb hbox hg; have hnb21 := NB461_462.out; have hnc21 := NB462_461.out; have hcz22_0 : w20.cell? ⟨gb461, 0, none⟩ = some (.int .i64 a1_0) := (blk_cell BK461.out 0).trans rfl; have hcz22_1 : w20.cell? ⟨gb461, 1, none⟩ = some (.int .i64 a1_1) := (blk_cell BK461.out 1).trans rfl; have hcz22_2 : w20.cell? ⟨gb461, 2, none⟩ = some (.string a1_2) := (blk_cell BK461.out 2).trans rfl; have hcz22_3 : w20.cell? ⟨gb461, 3, none⟩ = some (.bool a1_3) := (blk_cell BK461.out 3).trans rfl; have hfz22_0 := blk_frozen BK461.out 0; have hfz22_1 := blk_frozen BK461.out 1; have hfz22_2 := blk_frozen BK461.out 2; have hfz22_3 := blk_frozen BK461.out 3) | ((with_reducible refine gate_dst (N := 9) rfl ?_); refine Kd.R_lit k26 _ 26 ?hg (N := 9) ?hd (xs := ([(⟨a1_0, a1_1, a1_2, a1_3⟩ : S26)] : List (S26))) (inner := [.int .i64 a1_0, .int .i64 a1_1, .string a1_2, .bool a1_3]) (ok := fun _ => True) (okp := fun _ => True) ?hr ?hp (fun _ hk => hk) trivial (Below.refl _ _) (Nat.le_refl _) (by simp) ?_; (case hd => rfl); (case hg => rfl); (case hr => first | (go_simp; done) | (go_simp; rfl)); (case hp => exact (Reps.c4 (show Kd.M k26 _ _ _ (⟨a1_0, a1_1, a1_2, a1_3⟩ : S26) [.int .i64 a1_0, .int .i64 a1_1, .string a1_2, .bool a1_3] from (k26_mkM _ _ _ (⟨a1_0, a1_1, a1_2, a1_3⟩ : S26) )) (Reps.none _ _))); intro v464 w23 ho24 hb hg_ hnew_; clear hg_ hnew_; (first | rw [← Ny463.out] at ho24 | (simp only [Int.reduceToNat] at ho24; rw [← Ny463.out] at ho24)); have n0_ := Aside0.mk (Kd.R_lower (Kd.R_newB (Kd.R_newB ho24 (g := gb461) (o := .cells #[.int .i64 a1_0, .int .i64 a1_1, .string a1_2, .bool a1_3] 26 (0, 0)) (by (with_reducible repeat (first | refine blk_drewN ?_ _ | refine blk_drew ?_ | refine blk_alloc ?_ _)); exact BK461.out)) (g := gb462) (o := .cells #[.int .i64 0, .int .i64 0, .string (⟨#[]⟩ : ByteArray), .bool false] 26 (0, 0)) (by (with_reducible repeat (first | refine blk_drewN ?_ _ | refine blk_drew ?_ | refine blk_alloc ?_ _)); exact BK462.out)) (below_size (by repeat (first | (with_reducible first | exact HB.out | apply below_alloc | apply pw_below_drewN | apply below_drew1 | refine below_set ?_ GE461.out | refine below_set ?_ GE462.out) | exact HB.out)))); have n1_ := Aside0.mk (blk_below (g := gb461) (o := .cells #[.int .i64 a1_0, .int .i64 a1_1, .string a1_2, .bool a1_3] 26 (0, 0)) (by (with_reducible repeat (first | refine blk_drewN ?_ _ | refine blk_drew ?_ | refine blk_alloc ?_ _)); exact BK461.out) hb); have n2_ := Aside0.mk (blk_below (g := gb462) (o := .cells #[.int .i64 0, .int .i64 0, .string (⟨#[]⟩ : ByteArray), .bool false] 26 (0, 0)) (by (with_reducible repeat (first | refine blk_drewN ?_ _ | refine blk_drew ?_ | refine blk_alloc ?_ _)); exact BK462.out) hb); have n3_ := Aside0.mk (below_step (by repeat (first | (with_reducible first | exact HB.out | apply below_alloc | apply pw_below_drewN | apply below_drew1 | refine below_set ?_ GE461.out | refine below_set ?_ GE462.out) | exact HB.out)) hb); clear BK461; clear BK462; clear HB; have HO465 := n0_; have BK461 := n1_; have BK462 := n2_; have HB := n3_; clear n0_ n1_ n2_ n3_; clear hb ho24; obtain ⟨Ao25, co25, eo25⟩ := Kd.R_slice HO465.out; subst eo25) | ((with_reducible refine gate_callee (f := 45) rfl ?_); refine goesL_ (some 10) rfl rfl Tryd.func45 (by kernel_rfl) rfl #[.int .i64 a0, .int .i64 1, .int .i64 2, .slice Ao25 y463.length co25] rfl (by (try simp only [List.map_toArray, List.map_cons, List.map_nil]); first | done | rfl | (simp only [List.length_drop, List.length_take]; rfl)) ?_; (with_reducible refine (value_refusal.calls k a0 1 2 _ _ y463 t466 _ ?side1 ?side2 ?side3 A3.out).mono ?_); (case side1 => repeat (first | exact (Kd.R_reads' HO465.out).2.2 | (with_reducible refine Kd.C_alloc ?_ _) | (with_reducible refine Kd.C_drewN ?_ _) | (with_reducible refine Kd.C_drew ?_))); (case side2 => exact (Kd.R_reads' HO465.out).2.1); (case side3 => first | (with_reducible exact HL_LG0) | exact ⟨LG0.below HL_LG0.out (by repeat (first | (with_reducible first | exact HB.out | apply below_alloc | apply pw_below_drewN | apply below_drew1 | refine below_set ?_ GE461.out | refine below_set ?_ GE462.out) | exact HB.out))⟩); rintro e w26 ⟨rfl, hb⟩; refine ⟨_, rfl, ?_⟩; have n0_ := Aside0.mk (Kd.R_below (by (with_reducible repeat (first | apply Kd.R_alloc | apply Kd.R_drewN | apply Kd.R_drew)); exact HO465.out) hb); have n1_ := Aside0.mk (blk_below (g := gb461) (o := .cells #[.int .i64 a1_0, .int .i64 a1_1, .string a1_2, .bool a1_3] 26 (0, 0)) (by (with_reducible repeat (first | refine blk_drewN ?_ _ | refine blk_drew ?_ | refine blk_alloc ?_ _)); exact BK461.out) hb); have n2_ := Aside0.mk (blk_below (g := gb462) (o := .cells #[.int .i64 0, .int .i64 0, .string (⟨#[]⟩ : ByteArray), .bool false] 26 (0, 0)) (by (with_reducible repeat (first | refine blk_drewN ?_ _ | refine blk_drew ?_ | refine blk_alloc ?_ _)); exact BK462.out) hb); have n3_ := Aside0.mk (below_step (by repeat (first | (with_reducible first | exact HB.out | apply below_alloc | apply pw_below_drewN | apply below_drew1 | refine below_set ?_ GE461.out | refine below_set ?_ GE462.out) | exact HB.out)) hb); clear HO465; clear BK461; clear BK462; clear HB; have HO465 := n0_; have BK461 := n1_; have BK462 := n2_; have HB := n3_; clear n0_ n1_ n2_ n3_; (try clear hb); (try clear hb2); (try clear hk); (try clear hi); have hcz27_0 : w26.cell? ⟨gb461, 0, none⟩ = some (.int .i64 a1_0) := (blk_cell BK461.out 0).trans rfl; have hcz27_1 : w26.cell? ⟨gb461, 1, none⟩ = some (.int .i64 a1_1) := (blk_cell BK461.out 1).trans rfl; have hcz27_2 : w26.cell? ⟨gb461, 2, none⟩ = some (.string a1_2) := (blk_cell BK461.out 2).trans rfl; have hcz27_3 : w26.cell? ⟨gb461, 3, none⟩ = some (.bool a1_3) := (blk_cell BK461.out 3).trans rfl; have hfz27_0 := blk_frozen BK461.out 0; have hfz27_1 := blk_frozen BK461.out 1; have hfz27_2 := blk_frozen BK461.out 2; have hfz27_3 := blk_frozen BK461.out 3) | ((with_reducible refine gate_callee (f := 28) rfl ?_); refine goesL_ (some 24) rfl rfl Tryd.func28 (by kernel_rfl) rfl #[.bool (!a1_3)] rfl (by (try simp only [List.map_toArray, List.map_cons, List.map_nil]); first | done | rfl | (simp only [List.length_drop, List.length_take]; rfl)) ?_; (with_reducible refine (value_truth.calls (!a1_3) t471 t472 t473 t474 _ A18.out).mono ?_); rintro e w28 ⟨rfl, hb⟩; refine ⟨_, rfl, ?_⟩; have n0_ := Aside0.mk (Kd.R_below (by (with_reducible repeat (first | apply Kd.R_alloc | apply Kd.R_drewN | apply Kd.R_drew)); exact HO465.out) hb); have n1_ := Aside0.mk (blk_below (g := gb461) (o := .cells #[.int .i64 a1_0, .int .i64 a1_1, .string a1_2, .bool a1_3] 26 (0, 0)) (by (with_reducible repeat (first | refine blk_drewN ?_ _ | refine blk_drew ?_ | refine blk_alloc ?_ _)); exact BK461.out) hb); have n2_ := Aside0.mk (blk_below (g := gb462) (o := .cells #[.int .i64 0, .int .i64 0, .string (⟨#[]⟩ : ByteArray), .bool false] 26 (0, 0)) (by (with_reducible repeat (first | refine blk_drewN ?_ _ | refine blk_drew ?_ | refine blk_alloc ?_ _)); exact BK462.out) hb); have n3_ := Aside0.mk (below_step (by repeat (first | (with_reducible first | exact HB.out | apply below_alloc | apply pw_below_drewN | apply below_drew1 | refine below_set ?_ GE461.out | refine below_set ?_ GE462.out) | exact HB.out)) hb); clear HO465; clear BK461; clear BK462; clear HB; have HO465 := n0_; have BK461 := n1_; have BK462 := n2_; have HB := n3_; clear n0_ n1_ n2_ n3_; (try clear hb); (try clear hb2); (try clear hk); (try clear hi); have hcz29_0 : w28.cell? ⟨gb462, 0, none⟩ = some (.int .i64 0) := (blk_cell BK462.out 0).trans rfl; have hcz29_1 : w28.cell? ⟨gb462, 1, none⟩ = some (.int .i64 0) := (blk_cell BK462.out 1).trans rfl; have hcz29_2 : w28.cell? ⟨gb462, 2, none⟩ = some (.string (⟨#[]⟩ : ByteArray)) := (blk_cell BK462.out 2).trans rfl; have hcz29_3 : w28.cell? ⟨gb462, 3, none⟩ = some (.bool false) := (blk_cell BK462.out 3).trans rfl; have hfz29_0 := blk_frozen BK462.out 0; have hfz29_1 := blk_frozen BK462.out 1; have hfz29_2 := blk_frozen BK462.out 2; have hfz29_3 := blk_frozen BK462.out 3))
      refine bodyPost_ret (results_ct rfl _ _ gb462 26 #[.int .i64 t471, .int .i64 t472, .string t473, .bool t474] (0, 0) _ rfl (by (with_reducible repeat (first | refine blk_drewN ?_ _ | refine blk_drew ?_ | refine blk_alloc ?_ _)); refine blk_put (cs := #[.int .i64 t471, .int .i64 t472, .string t473, .bool false]) ?_ 3 _ rfl; (with_reducible repeat (first | refine blk_drewN ?_ _ | refine blk_drew ?_ | refine blk_alloc ?_ _)); refine blk_put (cs := #[.int .i64 t471, .int .i64 t472, .string (⟨#[]⟩ : ByteArray), .bool false]) ?_ 2 _ rfl; (with_reducible repeat (first | refine blk_drewN ?_ _ | refine blk_drew ?_ | refine blk_alloc ?_ _)); refine blk_put (cs := #[.int .i64 t471, .int .i64 0, .string (⟨#[]⟩ : ByteArray), .bool false]) ?_ 1 _ rfl; (with_reducible repeat (first | refine blk_drewN ?_ _ | refine blk_drew ?_ | refine blk_alloc ?_ _)); refine blk_put (cs := #[.int .i64 0, .int .i64 0, .string (⟨#[]⟩ : ByteArray), .bool false]) ?_ 0 _ rfl; (with_reducible repeat (first | refine blk_drewN ?_ _ | refine blk_drew ?_ | refine blk_alloc ?_ _)); exact BK462.out) Tryd.underlying26 rfl (by kernel_rfl)) rfl ?_
      exact ⟨by first | rfl | (simp [errW_none, errW_some] <;> rfl) | (simp [*, errW_none, errW_some] <;> rfl), by repeat (first | (with_reducible first | exact HB.out | apply below_alloc | apply pw_below_drewN | apply below_drew1 | refine below_set ?_ GE461.out | refine below_set ?_ GE462.out) | exact HB.out)⟩
  · rw [if_neg c4] at H
    have c4b0 : (t466 == 0) = false := beq_eq_false_iff_ne.mpr c4
    have c4b1 : (t466 != 0) = true := bne_iff_ne.mpr c4
    simp only [Option.some.injEq, Prod.mk.injEq] at H
    obtain ⟨rfl, rfl, rfl, rfl, rfl⟩ := H
    go_enter Tryd.func22, Tryd.ntmps22
    go_wp2_with (first | ((with_reducible refine gate_dst (N := 3) rfl ?_); refine box_event ?hg (N := 3) ?hd (cs := #[.int .i64 a1_0, .int .i64 a1_1, .string a1_2, .bool a1_3]) (t := 26) ?hr ?_; (case hd => rfl); (case hg => rfl); (case hr => first | (go_simp; done) | (go_simp; rfl)); intro gb461 hg w30 hbox hb; have n0_ := Aside0.mk (below_step (by repeat (first | (with_reducible first | exact HB.out | apply below_alloc | apply pw_below_drewN | apply below_drew1) | exact HB.out)) hb); have n1_ := Aside0.mk (hbox); have n2_ := Aside0.mk ((by rw [hg]; exact (below_size (by repeat (first | (with_reducible first | exact HB.out | apply below_alloc | apply pw_below_drewN | apply below_drew1) | exact HB.out))) : w.heap.size ≤ gb461)); have n3_ := Aside0.mk ((by rw [hg]; exact (below_size (by repeat (first | (with_reducible first | exact HB.out | apply below_alloc | apply pw_below_drewN | apply below_drew1) | exact HB.out))) : w.heap.size ≤ gb461)); clear HB; have HB := n0_; have BK461 := n1_; have GW461 := n2_; have GE461 := n3_; clear n0_ n1_ n2_ n3_; clear hb hbox hg) | ((with_reducible refine gate_dst (N := 4) rfl ?_); refine box_event ?hg (N := 4) ?hd (cs := #[.int .i64 0, .int .i64 0, .string (⟨#[]⟩ : ByteArray), .bool false]) (t := 26) ?hr ?_; (case hd => rfl); (case hg => rfl); (case hr => first | (go_simp; done) | (go_simp; rfl)); intro gb462 hg w31 hbox hb; have n0_ := Aside0.mk (blk_below (g := gb461) (o := .cells #[.int .i64 a1_0, .int .i64 a1_1, .string a1_2, .bool a1_3] 26 (0, 0)) (by (with_reducible repeat (first | refine blk_drewN ?_ _ | refine blk_drew ?_ | refine blk_alloc ?_ _)); exact BK461.out) hb); have n1_ := Aside0.mk (below_step (by repeat (first | (with_reducible first | exact HB.out | apply below_alloc | apply pw_below_drewN | apply below_drew1 | refine below_set ?_ GE461.out) | exact HB.out)) hb); have n2_ := Aside0.mk (hbox); have n3_ := Aside0.mk ((by rw [hg]; exact (below_size (by repeat (first | (with_reducible first | exact HB.out | apply below_alloc | apply pw_below_drewN | apply below_drew1 | refine below_set ?_ GE461.out) | exact HB.out))) : w.heap.size ≤ gb462)); have n4_ := Aside0.mk ((by rw [hg]; exact (below_size (by repeat (first | (with_reducible first | exact HB.out | apply below_alloc | apply pw_below_drewN | apply below_drew1 | refine below_set ?_ GE461.out) | exact HB.out))) : w.heap.size ≤ gb462)); have n5_ := Aside0.mk ((by rw [hg]; exact Nat.ne_of_lt (blk_lt (g := gb461) (o := .cells #[.int .i64 a1_0, .int .i64 a1_1, .string a1_2, .bool a1_3] 26 (0, 0)) (by (with_reducible repeat (first | refine blk_drewN ?_ _ | refine blk_drew ?_ | refine blk_alloc ?_ _)); exact BK461.out)) : gb461 ≠ gb462)); have n6_ := Aside0.mk ((by rw [hg]; exact Nat.ne_of_gt (blk_lt (g := gb461) (o := .cells #[.int .i64 a1_0, .int .i64 a1_1, .string a1_2, .bool a1_3] 26 (0, 0)) (by (with_reducible repeat (first | refine blk_drewN ?_ _ | refine blk_drew ?_ | refine blk_alloc ?_ _)); exact BK461.out)) : gb462 ≠ gb461)); clear BK461; clear HB; have BK461 := n0_; have HB := n1_; have BK462 := n2_; have GW462 := n3_; have GE462 := n4_; have NB461_462 := n5_; have NB462_461 := n6_; clear n0_ n1_ n2_ n3_ n4_ n5_ n6_; clear hb hbox hg; have hnb32 := NB461_462.out; have hnc32 := NB462_461.out; have hcz33_0 : w31.cell? ⟨gb461, 0, none⟩ = some (.int .i64 a1_0) := (blk_cell BK461.out 0).trans rfl; have hcz33_1 : w31.cell? ⟨gb461, 1, none⟩ = some (.int .i64 a1_1) := (blk_cell BK461.out 1).trans rfl; have hcz33_2 : w31.cell? ⟨gb461, 2, none⟩ = some (.string a1_2) := (blk_cell BK461.out 2).trans rfl; have hcz33_3 : w31.cell? ⟨gb461, 3, none⟩ = some (.bool a1_3) := (blk_cell BK461.out 3).trans rfl; have hfz33_0 := blk_frozen BK461.out 0; have hfz33_1 := blk_frozen BK461.out 1; have hfz33_2 := blk_frozen BK461.out 2; have hfz33_3 := blk_frozen BK461.out 3) | ((with_reducible refine gate_dst (N := 9) rfl ?_); refine Kd.R_lit k26 _ 26 ?hg (N := 9) ?hd (xs := ([(⟨a1_0, a1_1, a1_2, a1_3⟩ : S26)] : List (S26))) (inner := [.int .i64 a1_0, .int .i64 a1_1, .string a1_2, .bool a1_3]) (ok := fun _ => True) (okp := fun _ => True) ?hr ?hp (fun _ hk => hk) trivial (Below.refl _ _) (Nat.le_refl _) (by simp) ?_; (case hd => rfl); (case hg => rfl); (case hr => first | (go_simp; done) | (go_simp; rfl)); (case hp => exact (Reps.c4 (show Kd.M k26 _ _ _ (⟨a1_0, a1_1, a1_2, a1_3⟩ : S26) [.int .i64 a1_0, .int .i64 a1_1, .string a1_2, .bool a1_3] from (k26_mkM _ _ _ (⟨a1_0, a1_1, a1_2, a1_3⟩ : S26) )) (Reps.none _ _))); intro v464 w34 ho35 hb hg_ hnew_; clear hg_ hnew_; (first | rw [← Ny463.out] at ho35 | (simp only [Int.reduceToNat] at ho35; rw [← Ny463.out] at ho35)); have n0_ := Aside0.mk (Kd.R_lower (Kd.R_newB (Kd.R_newB ho35 (g := gb461) (o := .cells #[.int .i64 a1_0, .int .i64 a1_1, .string a1_2, .bool a1_3] 26 (0, 0)) (by (with_reducible repeat (first | refine blk_drewN ?_ _ | refine blk_drew ?_ | refine blk_alloc ?_ _)); exact BK461.out)) (g := gb462) (o := .cells #[.int .i64 0, .int .i64 0, .string (⟨#[]⟩ : ByteArray), .bool false] 26 (0, 0)) (by (with_reducible repeat (first | refine blk_drewN ?_ _ | refine blk_drew ?_ | refine blk_alloc ?_ _)); exact BK462.out)) (below_size (by repeat (first | (with_reducible first | exact HB.out | apply below_alloc | apply pw_below_drewN | apply below_drew1 | refine below_set ?_ GE461.out | refine below_set ?_ GE462.out) | exact HB.out)))); have n1_ := Aside0.mk (blk_below (g := gb461) (o := .cells #[.int .i64 a1_0, .int .i64 a1_1, .string a1_2, .bool a1_3] 26 (0, 0)) (by (with_reducible repeat (first | refine blk_drewN ?_ _ | refine blk_drew ?_ | refine blk_alloc ?_ _)); exact BK461.out) hb); have n2_ := Aside0.mk (blk_below (g := gb462) (o := .cells #[.int .i64 0, .int .i64 0, .string (⟨#[]⟩ : ByteArray), .bool false] 26 (0, 0)) (by (with_reducible repeat (first | refine blk_drewN ?_ _ | refine blk_drew ?_ | refine blk_alloc ?_ _)); exact BK462.out) hb); have n3_ := Aside0.mk (below_step (by repeat (first | (with_reducible first | exact HB.out | apply below_alloc | apply pw_below_drewN | apply below_drew1 | refine below_set ?_ GE461.out | refine below_set ?_ GE462.out) | exact HB.out)) hb); clear BK461; clear BK462; clear HB; have HO465 := n0_; have BK461 := n1_; have BK462 := n2_; have HB := n3_; clear n0_ n1_ n2_ n3_; clear hb ho35; obtain ⟨Ao36, co36, eo36⟩ := Kd.R_slice HO465.out; subst eo36) | ((with_reducible refine gate_callee (f := 45) rfl ?_); refine goesL_ (some 10) rfl rfl Tryd.func45 (by kernel_rfl) rfl #[.int .i64 a0, .int .i64 1, .int .i64 2, .slice Ao36 y463.length co36] rfl (by (try simp only [List.map_toArray, List.map_cons, List.map_nil]); first | done | rfl | (simp only [List.length_drop, List.length_take]; rfl)) ?_; (with_reducible refine (value_refusal.calls k a0 1 2 _ _ y463 t466 _ ?side1 ?side2 ?side3 A3.out).mono ?_); (case side1 => repeat (first | exact (Kd.R_reads' HO465.out).2.2 | (with_reducible refine Kd.C_alloc ?_ _) | (with_reducible refine Kd.C_drewN ?_ _) | (with_reducible refine Kd.C_drew ?_))); (case side2 => exact (Kd.R_reads' HO465.out).2.1); (case side3 => first | (with_reducible exact HL_LG0) | exact ⟨LG0.below HL_LG0.out (by repeat (first | (with_reducible first | exact HB.out | apply below_alloc | apply pw_below_drewN | apply below_drew1 | refine below_set ?_ GE461.out | refine below_set ?_ GE462.out) | exact HB.out))⟩); rintro e w37 ⟨rfl, hb⟩; refine ⟨_, rfl, ?_⟩; have n0_ := Aside0.mk (Kd.R_below (by (with_reducible repeat (first | apply Kd.R_alloc | apply Kd.R_drewN | apply Kd.R_drew)); exact HO465.out) hb); have n1_ := Aside0.mk (blk_below (g := gb461) (o := .cells #[.int .i64 a1_0, .int .i64 a1_1, .string a1_2, .bool a1_3] 26 (0, 0)) (by (with_reducible repeat (first | refine blk_drewN ?_ _ | refine blk_drew ?_ | refine blk_alloc ?_ _)); exact BK461.out) hb); have n2_ := Aside0.mk (blk_below (g := gb462) (o := .cells #[.int .i64 0, .int .i64 0, .string (⟨#[]⟩ : ByteArray), .bool false] 26 (0, 0)) (by (with_reducible repeat (first | refine blk_drewN ?_ _ | refine blk_drew ?_ | refine blk_alloc ?_ _)); exact BK462.out) hb); have n3_ := Aside0.mk (below_step (by repeat (first | (with_reducible first | exact HB.out | apply below_alloc | apply pw_below_drewN | apply below_drew1 | refine below_set ?_ GE461.out | refine below_set ?_ GE462.out) | exact HB.out)) hb); clear HO465; clear BK461; clear BK462; clear HB; have HO465 := n0_; have BK461 := n1_; have BK462 := n2_; have HB := n3_; clear n0_ n1_ n2_ n3_; (try clear hb); (try clear hb2); (try clear hk); (try clear hi); have hcz38_0 : w37.cell? ⟨gb462, 0, none⟩ = some (.int .i64 0) := (blk_cell BK462.out 0).trans rfl; have hcz38_1 : w37.cell? ⟨gb462, 1, none⟩ = some (.int .i64 0) := (blk_cell BK462.out 1).trans rfl; have hcz38_2 : w37.cell? ⟨gb462, 2, none⟩ = some (.string (⟨#[]⟩ : ByteArray)) := (blk_cell BK462.out 2).trans rfl; have hcz38_3 : w37.cell? ⟨gb462, 3, none⟩ = some (.bool false) := (blk_cell BK462.out 3).trans rfl; have hfz38_0 := blk_frozen BK462.out 0; have hfz38_1 := blk_frozen BK462.out 1; have hfz38_2 := blk_frozen BK462.out 2; have hfz38_3 := blk_frozen BK462.out 3))
    refine bodyPost_ret (results_ct rfl _ _ gb462 26 #[.int .i64 0, .int .i64 0, .string (⟨#[]⟩ : ByteArray), .bool false] (0, 0) _ rfl (by (with_reducible repeat (first | refine blk_drewN ?_ _ | refine blk_drew ?_ | refine blk_alloc ?_ _)); refine blk_put (cs := #[.int .i64 0, .int .i64 0, .string (⟨#[]⟩ : ByteArray), .bool false]) ?_ 3 _ rfl; (with_reducible repeat (first | refine blk_drewN ?_ _ | refine blk_drew ?_ | refine blk_alloc ?_ _)); refine blk_put (cs := #[.int .i64 0, .int .i64 0, .string (⟨#[]⟩ : ByteArray), .bool false]) ?_ 2 _ rfl; (with_reducible repeat (first | refine blk_drewN ?_ _ | refine blk_drew ?_ | refine blk_alloc ?_ _)); refine blk_put (cs := #[.int .i64 0, .int .i64 0, .string (⟨#[]⟩ : ByteArray), .bool false]) ?_ 1 _ rfl; (with_reducible repeat (first | refine blk_drewN ?_ _ | refine blk_drew ?_ | refine blk_alloc ?_ _)); refine blk_put (cs := #[.int .i64 0, .int .i64 0, .string (⟨#[]⟩ : ByteArray), .bool false]) ?_ 0 _ rfl; (with_reducible repeat (first | refine blk_drewN ?_ _ | refine blk_drew ?_ | refine blk_alloc ?_ _)); exact BK462.out) Tryd.underlying26 rfl (by kernel_rfl)) rfl ?_
    exact ⟨by first | rfl | (simp [errW_none, errW_some] <;> rfl) | (simp [*, errW_none, errW_some] <;> rfl), by repeat (first | (with_reducible first | exact HB.out | apply below_alloc | apply pw_below_drewN | apply below_drew1 | refine below_set ?_ GE461.out | refine below_set ?_ GE462.out) | exact HB.out)⟩

/-! ### refrainref1_Unary: function 23 -/
mutual
def refrainref1_Unary.j0 : Nat → Int → Bool → Int → Int → ByteArray → Bool → Option (Int × Int × ByteArray × Bool × Int)
  | 0, _, _, _, _, _, _ => none
  | k + 1, x0, x12, x476000, x476001, x476002, x476003 => if x12 = true then (some (0, 0, (⟨#[]⟩ : ByteArray), false, 11)) else ((refrainref1_Valid.f x476000 x476001 x476002 x476003).bind fun t477 => (if t477 = true then (if x0 = 1 then (refrainref1_Unary.j1 k x0 (x476000 == 1) x476000 x476001 x476002 x476003) else (refrainref1_Unary.j1 k x0 false x476000 x476001 x476002 x476003)) else (some (0, 0, (⟨#[]⟩ : ByteArray), false, 12))))
def refrainref1_Unary.j1 : Nat → Int → Bool → Int → Int → ByteArray → Bool → Option (Int × Int × ByteArray × Bool × Int)
  | 0, _, _, _, _, _, _ => none
  | k + 1, x0, x19, x476000, x476001, x476002, x476003 => if x19 = true then ((refrainref1_number.f (IntKind.u64.wrap (-(IntKind.u64.wrap (x476001))))).bind fun bt478 => (some (bt478.1, bt478.2.1, bt478.2.2.1, bt478.2.2.2, 0))) else (if x0 = 2 then (if x476000 = 3 then ((refrainref1_truth.f (!x476003)).bind fun bt482 => (some (bt482.1, bt482.2.1, bt482.2.2.1, bt482.2.2.2, 0))) else (some (0, 0, (⟨#[]⟩ : ByteArray), false, 10))) else (some (0, 0, (⟨#[]⟩ : ByteArray), false, 10)))
end
def refrainref1_Unary.f (k : Nat) (a0 : Int) (a1_0 : Int) (a1_1 : Int) (a1_2 : ByteArray) (a1_3 : Bool) : Option (Int × Int × ByteArray × Bool × Int) := if a0 = 1 then (refrainref1_Unary.j0 k a0 false a1_0 a1_1 a1_2 a1_3) else (refrainref1_Unary.j0 k a0 (a0 != 2) a1_0 a1_1 a1_2 a1_3)
set_option maxRecDepth 100000 in
theorem refrainref1_Unary.j0_zero : ∀ y0 y1 y2 y3 y4 y5, refrainref1_Unary.j0 0 y0 y1 y2 y3 y4 y5 = none := fun _ _ _ _ _ _ => rfl
set_option maxRecDepth 100000 in
theorem refrainref1_Unary.j1_zero : ∀ y0 y1 y2 y3 y4 y5, refrainref1_Unary.j1 0 y0 y1 y2 y3 y4 y5 = none := fun _ _ _ _ _ _ => rfl
set_option maxRecDepth 100000 in
theorem refrainref1_Unary.mono_l : ∀ k, (∀ y0 y1 y2 y3 y4 y5, LeO (refrainref1_Unary.j0 k y0 y1 y2 y3 y4 y5) (refrainref1_Unary.j0 (k + 1) y0 y1 y2 y3 y4 y5)) ∧ (∀ y0 y1 y2 y3 y4 y5, LeO (refrainref1_Unary.j1 k y0 y1 y2 y3 y4 y5) (refrainref1_Unary.j1 (k + 1) y0 y1 y2 y3 y4 y5))
  | 0 => ⟨fun _ _ _ _ _ _ r h => by (unfold refrainref1_Unary.j0 at h; cases h), fun _ _ _ _ _ _ r h => by (unfold refrainref1_Unary.j1 at h; cases h)⟩
  | k + 1 => by
    obtain ⟨ih0, ih1⟩ := refrainref1_Unary.mono_l k
    refine ⟨?_, ?_⟩
    · intro y0 y1 y2 y3 y4 y5
      unfold refrainref1_Unary.j0
      repeat' first
      | (with_reducible exact ih0 _ _ _ _ _ _)
      | (with_reducible exact ih1 _ _ _ _ _ _)
      | (with_reducible exact LeO.refl _)
      | (with_reducible exact LeO.none _)
      | (with_reducible refine LeO.ite ?_ ?_)
      | (with_reducible refine LeO.bind ?_ (fun _ => ?_))
      | exact ih0 _ _ _ _ _ _
      | exact ih1 _ _ _ _ _ _
      | exact LeO.none _
      | refine LeO.ite ?_ ?_
      | refine LeO.bind ?_ (fun _ => ?_)
    · intro y0 y1 y2 y3 y4 y5
      unfold refrainref1_Unary.j1
      repeat' first
      | (with_reducible exact ih0 _ _ _ _ _ _)
      | (with_reducible exact ih1 _ _ _ _ _ _)
      | (with_reducible exact LeO.refl _)
      | (with_reducible exact LeO.none _)
      | (with_reducible refine LeO.ite ?_ ?_)
      | (with_reducible refine LeO.bind ?_ (fun _ => ?_))
      | exact ih0 _ _ _ _ _ _
      | exact ih1 _ _ _ _ _ _
      | exact LeO.none _
      | refine LeO.ite ?_ ?_
      | refine LeO.bind ?_ (fun _ => ?_)
set_option maxRecDepth 100000 in
theorem refrainref1_Unary.mono : ∀ a0 a1 a2 a3 a4 k, LeO (refrainref1_Unary.f k a0 a1 a2 a3 a4) (refrainref1_Unary.f (k + 1) a0 a1 a2 a3 a4) := by
  intro a0 a1 a2 a3 a4 k
  obtain ⟨ih0, ih1⟩ := refrainref1_Unary.mono_l k
  unfold refrainref1_Unary.f
  repeat' first
      | (with_reducible exact ih0 _ _ _ _ _ _)
      | (with_reducible exact ih1 _ _ _ _ _ _)
      | (with_reducible exact LeO.refl _)
      | (with_reducible exact LeO.none _)
      | (with_reducible refine LeO.ite ?_ ?_)
      | (with_reducible refine LeO.bind ?_ (fun _ => ?_))
      | exact ih0 _ _ _ _ _ _
      | exact ih1 _ _ _ _ _ _
      | exact LeO.none _
      | refine LeO.ite ?_ ?_
      | refine LeO.bind ?_ (fun _ => ?_)
set_option maxHeartbeats 8000000 in
set_option maxRecDepth 100000 in
theorem refrainref1_Unary.calls (k : Nat) (a0 : Int) (a1_0 : Int) (a1_1 : Int) (a1_2 : ByteArray) (a1_3 : Bool) (r1 : Int) (r2 : Int) (r3 : ByteArray) (r4 : Bool) (r5 : Int) (w : World) (h : refrainref1_Unary.f k a0 a1_0 a1_1 a1_2 a1_3 = some (r1, r2, r3, r4, r5)) :
    Calls Tryd.prog 23 #[.int .i64 a0, .agg #[.int .i64 a1_0, .int .i64 a1_1, .string a1_2, .bool a1_3]] w fun e w' => e = .returned (.tuple #[.agg #[.int .i64 r1, .int .i64 r2, .string r3, .bool r4], .int .i64 r5]) ∧ Below w.heap.size w w' := by
  have hu26 := Tryd.underlying26
  have HB := Aside0.mk (Below.refl w.heap.size w)
  have H : (if a0 = 1 then (refrainref1_Unary.j0 k a0 false a1_0 a1_1 a1_2 a1_3) else (refrainref1_Unary.j0 k a0 (a0 != 2) a1_0 a1_1 a1_2 a1_3)) = some (r1, r2, r3, r4, r5) := h
  clear h
  have HC3 := Aside0.mk H
  clear H
  go_enter Tryd.func23, Tryd.ntmps23
  go_upto_region 1 with (first | ((with_reducible refine gate_dst (N := 3) rfl ?_); refine box_event ?hg (N := 3) ?hd (cs := #[.int .i64 a1_0, .int .i64 a1_1, .string a1_2, .bool a1_3]) (t := 26) ?hr ?_; (case hd => rfl); (case hg => rfl); (case hr => first | (go_simp; done) | (go_simp; rfl)); intro gb475 hg w4 hbox hb; have n0_ := Aside0.mk (below_step (by repeat (first | (with_reducible first | exact HB.out | apply below_alloc | apply pw_below_drewN | apply below_drew1) | exact HB.out)) hb); have n1_ := Aside0.mk (hbox); have n2_ := Aside0.mk ((by rw [hg]; exact (below_size (by repeat (first | (with_reducible first | exact HB.out | apply below_alloc | apply pw_below_drewN | apply below_drew1) | exact HB.out))) : w.heap.size ≤ gb475)); have n3_ := Aside0.mk ((by rw [hg]; exact (below_size (by repeat (first | (with_reducible first | exact HB.out | apply below_alloc | apply pw_below_drewN | apply below_drew1) | exact HB.out))) : w.heap.size ≤ gb475)); clear HB; have HB := n0_; have BK475 := n1_; have GW475 := n2_; have GE475 := n3_; clear n0_ n1_ n2_ n3_; clear hb hbox hg) | ((with_reducible refine gate_dst (N := 4) rfl ?_); refine box_event ?hg (N := 4) ?hd (cs := #[.int .i64 0, .int .i64 0, .string (⟨#[]⟩ : ByteArray), .bool false]) (t := 26) ?hr ?_; (case hd => rfl); (case hg => rfl); (case hr => first | (go_simp; done) | (go_simp; rfl)); intro gb476 hg w5 hbox hb; have n0_ := Aside0.mk (blk_below (g := gb475) (o := .cells #[.int .i64 a1_0, .int .i64 a1_1, .string a1_2, .bool a1_3] 26 (0, 0)) (by (with_reducible repeat (first | refine blk_drewN ?_ _ | refine blk_drew ?_ | refine blk_alloc ?_ _)); exact BK475.out) hb); have n1_ := Aside0.mk (below_step (by repeat (first | (with_reducible first | exact HB.out | apply below_alloc | apply pw_below_drewN | apply below_drew1 | refine below_set ?_ GE475.out) | exact HB.out)) hb); have n2_ := Aside0.mk (hbox); have n3_ := Aside0.mk ((by rw [hg]; exact (below_size (by repeat (first | (with_reducible first | exact HB.out | apply below_alloc | apply pw_below_drewN | apply below_drew1 | refine below_set ?_ GE475.out) | exact HB.out))) : w.heap.size ≤ gb476)); have n4_ := Aside0.mk ((by rw [hg]; exact (below_size (by repeat (first | (with_reducible first | exact HB.out | apply below_alloc | apply pw_below_drewN | apply below_drew1 | refine below_set ?_ GE475.out) | exact HB.out))) : w.heap.size ≤ gb476)); have n5_ := Aside0.mk ((by rw [hg]; exact Nat.ne_of_lt (blk_lt (g := gb475) (o := .cells #[.int .i64 a1_0, .int .i64 a1_1, .string a1_2, .bool a1_3] 26 (0, 0)) (by (with_reducible repeat (first | refine blk_drewN ?_ _ | refine blk_drew ?_ | refine blk_alloc ?_ _)); exact BK475.out)) : gb475 ≠ gb476)); have n6_ := Aside0.mk ((by rw [hg]; exact Nat.ne_of_gt (blk_lt (g := gb475) (o := .cells #[.int .i64 a1_0, .int .i64 a1_1, .string a1_2, .bool a1_3] 26 (0, 0)) (by (with_reducible repeat (first | refine blk_drewN ?_ _ | refine blk_drew ?_ | refine blk_alloc ?_ _)); exact BK475.out)) : gb476 ≠ gb475)); clear BK475; clear HB; have BK475 := n0_; have HB := n1_; have BK476 := n2_; have GW476 := n3_; have GE476 := n4_; have NB475_476 := n5_; have NB476_475 := n6_; clear n0_ n1_ n2_ n3_ n4_ n5_ n6_; clear hb hbox hg))
  (try simp only [Act.put, List.setIfInBounds_toArray, List.set_cons_zero, List.set_cons_succ])
  go_cut [12] (fun v12 wc => ∃ (kq : Nat) (x12_2 : Bool), v12 = .bool x12_2 ∧ Aside0 (refrainref1_Unary.j0 kq a0 x12_2 a1_0 a1_1 a1_2 a1_3 = some (r1, r2, r3, r4, r5)) ∧ Aside0 (kq ≤ k) ∧ Aside0 (wc.heap[gb475]? = some (.cells #[.int .i64 a1_0, .int .i64 a1_1, .string a1_2, .bool a1_3] 26 (0, 0))) ∧ Aside0 (wc.heap[gb476]? = some (.cells #[.int .i64 0, .int .i64 0, .string (⟨#[]⟩ : ByteArray), .bool false] 26 (0, 0))) ∧ Aside0 (Below w.heap.size w wc))
  case first =>
    have H := HC3.out
    clear HC3
    by_cases c6 : a0 = 1
    · rw [if_pos c6] at H
      have c6b0 : (a0 == 1) = true := beq_iff_eq.mpr c6
      have c6b1 : (a0 != 1) = false := bne_eq_false_iff_eq.mpr c6
      clear c6
      (first | rw [c6b0] | (simp only [i64_w, i32_w, IntKind.wrap_u8, IntKind.wrap_u16, IntKind.wrap_u32]; rw [c6b0]) | skip)
      have H' := Aside0.mk H
      clear H
      go_wp2
      go_meet
      case rel => exact ⟨_, (false), (by first | rfl | (simp; done) | (simp [*]; done) | (simp; unfold wrap64; omega)), H', ⟨by first | omega | exact Nat.le_refl _⟩, ⟨by (with_reducible repeat (first | refine blk_drewN ?_ _ | refine blk_drew ?_ | refine blk_alloc ?_ _)); exact BK475.out⟩, ⟨by (with_reducible repeat (first | refine blk_drewN ?_ _ | refine blk_drew ?_ | refine blk_alloc ?_ _)); exact BK476.out⟩, ⟨by repeat (first | (with_reducible first | exact HB.out | apply below_alloc | apply pw_below_drewN | apply below_drew1 | refine below_set ?_ GE475.out | refine below_set ?_ GE476.out) | exact HB.out)⟩⟩
    · rw [if_neg c6] at H
      have c6b0 : (a0 == 1) = false := beq_eq_false_iff_ne.mpr c6
      have c6b1 : (a0 != 1) = true := bne_iff_ne.mpr c6
      (first | rw [c6b0] | (simp only [i64_w, i32_w, IntKind.wrap_u8, IntKind.wrap_u16, IntKind.wrap_u32]; rw [c6b0]) | skip)
      have H' := Aside0.mk H
      clear H
      go_wp2
      go_meet
      case rel => exact ⟨_, ((a0 != 2)), (by first | rfl | (simp; done) | (simp [*]; done) | (simp; unfold wrap64; omega)), H', ⟨by first | omega | exact Nat.le_refl _⟩, ⟨by (with_reducible repeat (first | refine blk_drewN ?_ _ | refine blk_drew ?_ | refine blk_alloc ?_ _)); exact BK475.out⟩, ⟨by (with_reducible repeat (first | refine blk_drewN ?_ _ | refine blk_drew ?_ | refine blk_alloc ?_ _)); exact BK476.out⟩, ⟨by repeat (first | (with_reducible first | exact HB.out | apply below_alloc | apply pw_below_drewN | apply below_drew1 | refine below_set ?_ GE475.out | refine below_set ?_ GE476.out) | exact HB.out)⟩⟩
  case rest =>
    clear HC3
    try clear c2
    try clear p2
    try clear c6
    try clear c6b0
    try clear c6b1
    obtain ⟨kq, x12_2, rfl, HA, HJ2, BK475, BK476, HB⟩ := hcut
    cases kq with
    | zero => (have HA2 := HA.out; clear HA; revert HA2; rw [refrainref1_Unary.j0_zero]; intro h_; cases h_)
    | succ kj2 =>
      have H := HA.out
      clear HA
      simp only [refrainref1_Unary.j0] at H
      by_cases c7 : x12_2 = true
      · subst c7
        have H1 : (some (0, 0, (⟨#[]⟩ : ByteArray), false, 11)) = some (r1, r2, r3, r4, r5) := by rw [if_pos rfl] at H; exact H
        clear H
        have H := H1
        clear H1
        simp only [Option.some.injEq, Prod.mk.injEq] at H
        obtain ⟨rfl, rfl, rfl, rfl, rfl⟩ := H
        have hnb8 := NB476_475.out
        have hnc8 := NB475_476.out
        have hcz9_0 : wc.cell? ⟨gb476, 0, none⟩ = some (.int .i64 0) := (blk_cell BK476.out 0).trans rfl
        have hcz9_1 : wc.cell? ⟨gb476, 1, none⟩ = some (.int .i64 0) := (blk_cell BK476.out 1).trans rfl
        have hcz9_2 : wc.cell? ⟨gb476, 2, none⟩ = some (.string (⟨#[]⟩ : ByteArray)) := (blk_cell BK476.out 2).trans rfl
        have hcz9_3 : wc.cell? ⟨gb476, 3, none⟩ = some (.bool false) := (blk_cell BK476.out 3).trans rfl
        have hfz9_0 := blk_frozen BK476.out 0
        have hfz9_1 := blk_frozen BK476.out 1
        have hfz9_2 := blk_frozen BK476.out 2
        have hfz9_3 := blk_frozen BK476.out 3
        go_wp2
        refine bodyPost_ret (results_ct rfl _ _ gb476 26 #[.int .i64 0, .int .i64 0, .string (⟨#[]⟩ : ByteArray), .bool false] (0, 0) _ rfl (by (with_reducible repeat (first | refine blk_drewN ?_ _ | refine blk_drew ?_ | refine blk_alloc ?_ _)); refine blk_put (cs := #[.int .i64 0, .int .i64 0, .string (⟨#[]⟩ : ByteArray), .bool false]) ?_ 3 _ rfl; (with_reducible repeat (first | refine blk_drewN ?_ _ | refine blk_drew ?_ | refine blk_alloc ?_ _)); refine blk_put (cs := #[.int .i64 0, .int .i64 0, .string (⟨#[]⟩ : ByteArray), .bool false]) ?_ 2 _ rfl; (with_reducible repeat (first | refine blk_drewN ?_ _ | refine blk_drew ?_ | refine blk_alloc ?_ _)); refine blk_put (cs := #[.int .i64 0, .int .i64 0, .string (⟨#[]⟩ : ByteArray), .bool false]) ?_ 1 _ rfl; (with_reducible repeat (first | refine blk_drewN ?_ _ | refine blk_drew ?_ | refine blk_alloc ?_ _)); refine blk_put (cs := #[.int .i64 0, .int .i64 0, .string (⟨#[]⟩ : ByteArray), .bool false]) ?_ 0 _ rfl; (with_reducible repeat (first | refine blk_drewN ?_ _ | refine blk_drew ?_ | refine blk_alloc ?_ _)); exact BK476.out) Tryd.underlying26 rfl (by kernel_rfl)) rfl ?_
        exact ⟨by first | rfl | (simp [errW_none, errW_some] <;> rfl) | (simp [*, errW_none, errW_some] <;> rfl), by repeat (first | (with_reducible first | exact HB.out | apply below_alloc | apply pw_below_drewN | apply below_drew1 | refine below_set ?_ GE475.out | refine below_set ?_ GE476.out) | exact HB.out)⟩
      · replace c7 := Bool.eq_false_iff.mpr c7
        subst c7
        have H1 : ((refrainref1_Valid.f a1_0 a1_1 a1_2 a1_3).bind fun t477 => (if t477 = true then (if a0 = 1 then (refrainref1_Unary.j1 kj2 a0 (a1_0 == 1) a1_0 a1_1 a1_2 a1_3) else (refrainref1_Unary.j1 kj2 a0 false a1_0 a1_1 a1_2 a1_3)) else (some (0, 0, (⟨#[]⟩ : ByteArray), false, 12)))) = some (r1, r2, r3, r4, r5) := by rw [if_neg (show ¬ (false = true) by decide)] at H; exact H
        clear H
        have H := H1
        clear H1
        replace H := Option.bind_eq_some_iff.mp H
        obtain ⟨t477, A100, H⟩ := H
        replace H : (if t477 = true then (if a0 = 1 then (refrainref1_Unary.j1 kj2 a0 (a1_0 == 1) a1_0 a1_1 a1_2 a1_3) else (refrainref1_Unary.j1 kj2 a0 false a1_0 a1_1 a1_2 a1_3)) else (some (0, 0, (⟨#[]⟩ : ByteArray), false, 12))) = some (r1, r2, r3, r4, r5) := H
        have A10 := Aside0.mk A100
        clear A100
        by_cases c11 : t477 = true
        · subst c11
          have H1 : (if a0 = 1 then (refrainref1_Unary.j1 kj2 a0 (a1_0 == 1) a1_0 a1_1 a1_2 a1_3) else (refrainref1_Unary.j1 kj2 a0 false a1_0 a1_1 a1_2 a1_3)) = some (r1, r2, r3, r4, r5) := by rw [if_pos rfl] at H; exact H
          clear H
          have H := H1
          clear H1
          have HC12 := Aside0.mk H
          clear H
          have hnb13 := NB475_476.out
          have hnc13 := NB476_475.out
          have hcz14_0 : wc.cell? ⟨gb475, 0, none⟩ = some (.int .i64 a1_0) := (blk_cell BK475.out 0).trans rfl
          have hcz14_1 : wc.cell? ⟨gb475, 1, none⟩ = some (.int .i64 a1_1) := (blk_cell BK475.out 1).trans rfl
          have hcz14_2 : wc.cell? ⟨gb475, 2, none⟩ = some (.string a1_2) := (blk_cell BK475.out 2).trans rfl
          have hcz14_3 : wc.cell? ⟨gb475, 3, none⟩ = some (.bool a1_3) := (blk_cell BK475.out 3).trans rfl
          have hfz14_0 := blk_frozen BK475.out 0
          have hfz14_1 := blk_frozen BK475.out 1
          have hfz14_2 := blk_frozen BK475.out 2
          have hfz14_3 := blk_frozen BK475.out 3
          go_upto_region 6 with (first | ((with_reducible refine gate_callee (f := 12) rfl ?_); refine goesL_ (some 15) rfl rfl Tryd.func12 (by kernel_rfl) rfl #[.agg #[.int .i64 a1_0, .int .i64 a1_1, .string a1_2, .bool a1_3]] rfl (by (try simp only [List.map_toArray, List.map_cons, List.map_nil]); first | done | rfl | (simp only [List.length_drop, List.length_take]; rfl)) ?_; (with_reducible refine (refrainref1_Valid.calls a1_0 a1_1 a1_2 a1_3 true _ A10.out).mono ?_); rintro e w15 ⟨rfl, hb⟩; refine ⟨_, rfl, ?_⟩; have n0_ := Aside0.mk (blk_below (g := gb475) (o := .cells #[.int .i64 a1_0, .int .i64 a1_1, .string a1_2, .bool a1_3] 26 (0, 0)) (by (with_reducible repeat (first | refine blk_drewN ?_ _ | refine blk_drew ?_ | refine blk_alloc ?_ _)); exact BK475.out) hb); have n1_ := Aside0.mk (blk_below (g := gb476) (o := .cells #[.int .i64 0, .int .i64 0, .string (⟨#[]⟩ : ByteArray), .bool false] 26 (0, 0)) (by (with_reducible repeat (first | refine blk_drewN ?_ _ | refine blk_drew ?_ | refine blk_alloc ?_ _)); exact BK476.out) hb); have n2_ := Aside0.mk (below_step (by repeat (first | (with_reducible first | exact HB.out | apply below_alloc | apply pw_below_drewN | apply below_drew1 | refine below_set ?_ GE475.out | refine below_set ?_ GE476.out) | exact HB.out)) hb); clear BK475; clear BK476; clear HB; have BK475 := n0_; have BK476 := n1_; have HB := n2_; clear n0_ n1_ n2_; (try clear hb); (try clear hb2); (try clear hk); (try clear hi)))
          (try simp only [Act.put, List.setIfInBounds_toArray, List.set_cons_zero, List.set_cons_succ])
          go_cut [19] (fun v19 wc => ∃ (kq : Nat) (x19_11 : Bool), v19 = .bool x19_11 ∧ Aside0 (refrainref1_Unary.j1 kq a0 x19_11 a1_0 a1_1 a1_2 a1_3 = some (r1, r2, r3, r4, r5)) ∧ Aside0 (kq ≤ kj2) ∧ Aside0 (wc.heap[gb475]? = some (.cells #[.int .i64 a1_0, .int .i64 a1_1, .string a1_2, .bool a1_3] 26 (0, 0))) ∧ Aside0 (wc.heap[gb476]? = some (.cells #[.int .i64 0, .int .i64 0, .string (⟨#[]⟩ : ByteArray), .bool false] 26 (0, 0))) ∧ Aside0 (Below w.heap.size w wc))
          case first =>
            have H := HC12.out
            clear HC12
            by_cases c16 : a0 = 1
            · rw [if_pos c16] at H
              have c16b0 : (a0 == 1) = true := beq_iff_eq.mpr c16
              have c16b1 : (a0 != 1) = false := bne_eq_false_iff_eq.mpr c16
              clear c16
              (first | rw [c16b0] | (simp only [i64_w, i32_w, IntKind.wrap_u8, IntKind.wrap_u16, IntKind.wrap_u32]; rw [c16b0]) | skip)
              have H' := Aside0.mk H
              clear H
              have hnb17 := NB475_476.out
              have hnc17 := NB476_475.out
              have hcz18_0 : w15.cell? ⟨gb475, 0, none⟩ = some (.int .i64 a1_0) := (blk_cell BK475.out 0).trans rfl
              have hcz18_1 : w15.cell? ⟨gb475, 1, none⟩ = some (.int .i64 a1_1) := (blk_cell BK475.out 1).trans rfl
              have hcz18_2 : w15.cell? ⟨gb475, 2, none⟩ = some (.string a1_2) := (blk_cell BK475.out 2).trans rfl
              have hcz18_3 : w15.cell? ⟨gb475, 3, none⟩ = some (.bool a1_3) := (blk_cell BK475.out 3).trans rfl
              have hfz18_0 := blk_frozen BK475.out 0
              have hfz18_1 := blk_frozen BK475.out 1
              have hfz18_2 := blk_frozen BK475.out 2
              have hfz18_3 := blk_frozen BK475.out 3
              go_wp2
              go_meet
              case rel => exact ⟨_, ((a1_0 == 1)), (by first | rfl | (simp; done) | (simp [*]; done) | (simp; unfold wrap64; omega)), H', ⟨by have := HJ2.out; first | omega | exact Nat.le_refl _⟩, ⟨by (with_reducible repeat (first | refine blk_drewN ?_ _ | refine blk_drew ?_ | refine blk_alloc ?_ _)); exact BK475.out⟩, ⟨by (with_reducible repeat (first | refine blk_drewN ?_ _ | refine blk_drew ?_ | refine blk_alloc ?_ _)); exact BK476.out⟩, ⟨by repeat (first | (with_reducible first | exact HB.out | apply below_alloc | apply pw_below_drewN | apply below_drew1 | refine below_set ?_ GE475.out | refine below_set ?_ GE476.out) | exact HB.out)⟩⟩
            · rw [if_neg c16] at H
              have c16b0 : (a0 == 1) = false := beq_eq_false_iff_ne.mpr c16
              have c16b1 : (a0 != 1) = true := bne_iff_ne.mpr c16
              (first | rw [c16b0] | (simp only [i64_w, i32_w, IntKind.wrap_u8, IntKind.wrap_u16, IntKind.wrap_u32]; rw [c16b0]) | skip)
              have H' := Aside0.mk H
              clear H
              go_wp2
              go_meet
              case rel => exact ⟨_, (false), (by first | rfl | (simp; done) | (simp [*]; done) | (simp; unfold wrap64; omega)), H', ⟨by have := HJ2.out; first | omega | exact Nat.le_refl _⟩, ⟨by (with_reducible repeat (first | refine blk_drewN ?_ _ | refine blk_drew ?_ | refine blk_alloc ?_ _)); exact BK475.out⟩, ⟨by (with_reducible repeat (first | refine blk_drewN ?_ _ | refine blk_drew ?_ | refine blk_alloc ?_ _)); exact BK476.out⟩, ⟨by repeat (first | (with_reducible first | exact HB.out | apply below_alloc | apply pw_below_drewN | apply below_drew1 | refine below_set ?_ GE475.out | refine below_set ?_ GE476.out) | exact HB.out)⟩⟩
          case rest =>
            clear HC12
            try clear c1
            try clear c2
            try clear p2
            try clear c6
            try clear c6b0
            try clear c6b1
            try clear c7
            try clear c8
            try clear c11
            try clear c12
            try clear c13
            try clear c16
            try clear c16b0
            try clear c16b1
            try clear c17
            try clear hcz14_0
            try clear hcz14_1
            try clear hcz14_2
            try clear hcz14_3
            try clear hcz18_0
            try clear hcz18_1
            try clear hcz18_2
            try clear hcz18_3
            try clear hcz9_0
            try clear hcz9_1
            try clear hcz9_2
            try clear hcz9_3
            try clear hfz14_0
            try clear hfz14_1
            try clear hfz14_2
            try clear hfz14_3
            try clear hfz18_0
            try clear hfz18_1
            try clear hfz18_2
            try clear hfz18_3
            try clear hfz9_0
            try clear hfz9_1
            try clear hfz9_2
            try clear hfz9_3
            try clear p2
            obtain ⟨kq, x19_11, rfl, HA, HJ11, BK475, BK476, HB⟩ := hcut
            cases kq with
            | zero => (have HA2 := HA.out; clear HA; revert HA2; rw [refrainref1_Unary.j1_zero]; intro h_; cases h_)
            | succ kj11 =>
              have H := HA.out
              clear HA
              simp only [refrainref1_Unary.j1] at H
              by_cases c19 : x19_11 = true
              · subst c19
                have H1 : ((refrainref1_number.f (IntKind.u64.wrap (-(IntKind.u64.wrap (a1_1))))).bind fun bt478 => (some (bt478.1, bt478.2.1, bt478.2.2.1, bt478.2.2.2, 0))) = some (r1, r2, r3, r4, r5) := by rw [if_pos rfl] at H; exact H
                clear H
                have H := H1
                clear H1
                replace H := Option.bind_eq_some_iff.mp H
                obtain ⟨⟨t478, t479, t480, t481⟩, A200, H⟩ := H
                replace H : (some (t478, t479, t480, t481, 0)) = some (r1, r2, r3, r4, r5) := H
                have A20 := Aside0.mk A200
                clear A200
                simp only [Option.some.injEq, Prod.mk.injEq] at H
                obtain ⟨rfl, rfl, rfl, rfl, rfl⟩ := H
                have hnb21 := NB475_476.out
                have hnc21 := NB476_475.out
                have hcz22_0 : wc.cell? ⟨gb475, 0, none⟩ = some (.int .i64 a1_0) := (blk_cell BK475.out 0).trans rfl
                have hcz22_1 : wc.cell? ⟨gb475, 1, none⟩ = some (.int .i64 a1_1) := (blk_cell BK475.out 1).trans rfl
                have hcz22_2 : wc.cell? ⟨gb475, 2, none⟩ = some (.string a1_2) := (blk_cell BK475.out 2).trans rfl
                have hcz22_3 : wc.cell? ⟨gb475, 3, none⟩ = some (.bool a1_3) := (blk_cell BK475.out 3).trans rfl
                have hfz22_0 := blk_frozen BK475.out 0
                have hfz22_1 := blk_frozen BK475.out 1
                have hfz22_2 := blk_frozen BK475.out 2
                have hfz22_3 := blk_frozen BK475.out 3
                go_wp2_with (first | ((with_reducible refine gate_callee (f := 48) rfl ?_); refine goesL_ (some 31) rfl rfl Tryd.func48 (by kernel_rfl) rfl #[.int .u64 (IntKind.u64.wrap (-(IntKind.u64.wrap (a1_1))))] rfl (by (try simp only [List.map_toArray, List.map_cons, List.map_nil]); first | done | rfl | (simp only [List.length_drop, List.length_take]; rfl)) ?_; (with_reducible refine (refrainref1_number.calls (IntKind.u64.wrap (-(IntKind.u64.wrap (a1_1)))) t478 t479 t480 t481 _ A20.out).mono ?_); rintro e w23 ⟨rfl, hb⟩; refine ⟨_, rfl, ?_⟩; have n0_ := Aside0.mk (blk_below (g := gb475) (o := .cells #[.int .i64 a1_0, .int .i64 a1_1, .string a1_2, .bool a1_3] 26 (0, 0)) (by (with_reducible repeat (first | refine blk_drewN ?_ _ | refine blk_drew ?_ | refine blk_alloc ?_ _)); exact BK475.out) hb); have n1_ := Aside0.mk (blk_below (g := gb476) (o := .cells #[.int .i64 0, .int .i64 0, .string (⟨#[]⟩ : ByteArray), .bool false] 26 (0, 0)) (by (with_reducible repeat (first | refine blk_drewN ?_ _ | refine blk_drew ?_ | refine blk_alloc ?_ _)); exact BK476.out) hb); have n2_ := Aside0.mk (below_step (by repeat (first | (with_reducible first | exact HB.out | apply below_alloc | apply pw_below_drewN | apply below_drew1 | refine below_set ?_ GE475.out | refine below_set ?_ GE476.out) | exact HB.out)) hb); clear BK475; clear BK476; clear HB; have BK475 := n0_; have BK476 := n1_; have HB := n2_; clear n0_ n1_ n2_; (try clear hb); (try clear hb2); (try clear hk); (try clear hi); have hcz24_0 : w23.cell? ⟨gb476, 0, none⟩ = some (.int .i64 0) := (blk_cell BK476.out 0).trans rfl; have hcz24_1 : w23.cell? ⟨gb476, 1, none⟩ = some (.int .i64 0) := (blk_cell BK476.out 1).trans rfl; have hcz24_2 : w23.cell? ⟨gb476, 2, none⟩ = some (.string (⟨#[]⟩ : ByteArray)) := (blk_cell BK476.out 2).trans rfl; have hcz24_3 : w23.cell? ⟨gb476, 3, none⟩ = some (.bool false) := (blk_cell BK476.out 3).trans rfl; have hfz24_0 := blk_frozen BK476.out 0; have hfz24_1 := blk_frozen BK476.out 1; have hfz24_2 := blk_frozen BK476.out 2; have hfz24_3 := blk_frozen BK476.out 3))
                refine bodyPost_ret (results_ct rfl _ _ gb476 26 #[.int .i64 t478, .int .i64 t479, .string t480, .bool t481] (0, 0) _ rfl (by (with_reducible repeat (first | refine blk_drewN ?_ _ | refine blk_drew ?_ | refine blk_alloc ?_ _)); refine blk_put (cs := #[.int .i64 t478, .int .i64 t479, .string t480, .bool false]) ?_ 3 _ rfl; (with_reducible repeat (first | refine blk_drewN ?_ _ | refine blk_drew ?_ | refine blk_alloc ?_ _)); refine blk_put (cs := #[.int .i64 t478, .int .i64 t479, .string (⟨#[]⟩ : ByteArray), .bool false]) ?_ 2 _ rfl; (with_reducible repeat (first | refine blk_drewN ?_ _ | refine blk_drew ?_ | refine blk_alloc ?_ _)); refine blk_put (cs := #[.int .i64 t478, .int .i64 0, .string (⟨#[]⟩ : ByteArray), .bool false]) ?_ 1 _ rfl; (with_reducible repeat (first | refine blk_drewN ?_ _ | refine blk_drew ?_ | refine blk_alloc ?_ _)); refine blk_put (cs := #[.int .i64 0, .int .i64 0, .string (⟨#[]⟩ : ByteArray), .bool false]) ?_ 0 _ rfl; (with_reducible repeat (first | refine blk_drewN ?_ _ | refine blk_drew ?_ | refine blk_alloc ?_ _)); exact BK476.out) Tryd.underlying26 rfl (by kernel_rfl)) rfl ?_
                exact ⟨by first | rfl | (simp [errW_none, errW_some] <;> rfl) | (simp [*, errW_none, errW_some] <;> rfl), by repeat (first | (with_reducible first | exact HB.out | apply below_alloc | apply pw_below_drewN | apply below_drew1 | refine below_set ?_ GE475.out | refine below_set ?_ GE476.out) | exact HB.out)⟩
              · replace c19 := Bool.eq_false_iff.mpr c19
                subst c19
                have H1 : (if a0 = 2 then (if a1_0 = 3 then ((refrainref1_truth.f (!a1_3)).bind fun bt482 => (some (bt482.1, bt482.2.1, bt482.2.2.1, bt482.2.2.2, 0))) else (some (0, 0, (⟨#[]⟩ : ByteArray), false, 10))) else (some (0, 0, (⟨#[]⟩ : ByteArray), false, 10))) = some (r1, r2, r3, r4, r5) := by rw [if_neg (show ¬ (false = true) by decide)] at H; exact H
                clear H
                have H := H1
                clear H1
                by_cases c25 : a0 = 2
                · rw [if_pos c25] at H
                  have c25b0 : (a0 == 2) = true := beq_iff_eq.mpr c25
                  have c25b1 : (a0 != 2) = false := bne_eq_false_iff_eq.mpr c25
                  clear c25
                  by_cases c26 : a1_0 = 3
                  · rw [if_pos c26] at H
                    have c26b0 : (a1_0 == 3) = true := beq_iff_eq.mpr c26
                    have c26b1 : (a1_0 != 3) = false := bne_eq_false_iff_eq.mpr c26
                    clear c26
                    replace H := Option.bind_eq_some_iff.mp H
                    obtain ⟨⟨t482, t483, t484, t485⟩, A270, H⟩ := H
                    replace H : (some (t482, t483, t484, t485, 0)) = some (r1, r2, r3, r4, r5) := H
                    have A27 := Aside0.mk A270
                    clear A270
                    simp only [Option.some.injEq, Prod.mk.injEq] at H
                    obtain ⟨rfl, rfl, rfl, rfl, rfl⟩ := H
                    have hnb28 := NB475_476.out
                    have hnc28 := NB476_475.out
                    have hcz29_0 : wc.cell? ⟨gb475, 0, none⟩ = some (.int .i64 a1_0) := (blk_cell BK475.out 0).trans rfl
                    have hcz29_1 : wc.cell? ⟨gb475, 1, none⟩ = some (.int .i64 a1_1) := (blk_cell BK475.out 1).trans rfl
                    have hcz29_2 : wc.cell? ⟨gb475, 2, none⟩ = some (.string a1_2) := (blk_cell BK475.out 2).trans rfl
                    have hcz29_3 : wc.cell? ⟨gb475, 3, none⟩ = some (.bool a1_3) := (blk_cell BK475.out 3).trans rfl
                    have hfz29_0 := blk_frozen BK475.out 0
                    have hfz29_1 := blk_frozen BK475.out 1
                    have hfz29_2 := blk_frozen BK475.out 2
                    have hfz29_3 := blk_frozen BK475.out 3
                    go_wp2_with (first | ((with_reducible refine gate_callee (f := 47) rfl ?_); refine goesL_ (some 43) rfl rfl Tryd.func47 (by kernel_rfl) rfl #[.bool (!a1_3)] rfl (by (try simp only [List.map_toArray, List.map_cons, List.map_nil]); first | done | rfl | (simp only [List.length_drop, List.length_take]; rfl)) ?_; (with_reducible refine (refrainref1_truth.calls (!a1_3) t482 t483 t484 t485 _ A27.out).mono ?_); rintro e w30 ⟨rfl, hb⟩; refine ⟨_, rfl, ?_⟩; have n0_ := Aside0.mk (blk_below (g := gb475) (o := .cells #[.int .i64 a1_0, .int .i64 a1_1, .string a1_2, .bool a1_3] 26 (0, 0)) (by (with_reducible repeat (first | refine blk_drewN ?_ _ | refine blk_drew ?_ | refine blk_alloc ?_ _)); exact BK475.out) hb); have n1_ := Aside0.mk (blk_below (g := gb476) (o := .cells #[.int .i64 0, .int .i64 0, .string (⟨#[]⟩ : ByteArray), .bool false] 26 (0, 0)) (by (with_reducible repeat (first | refine blk_drewN ?_ _ | refine blk_drew ?_ | refine blk_alloc ?_ _)); exact BK476.out) hb); have n2_ := Aside0.mk (below_step (by repeat (first | (with_reducible first | exact HB.out | apply below_alloc | apply pw_below_drewN | apply below_drew1 | refine below_set ?_ GE475.out | refine below_set ?_ GE476.out) | exact HB.out)) hb); clear BK475; clear BK476; clear HB; have BK475 := n0_; have BK476 := n1_; have HB := n2_; clear n0_ n1_ n2_; (try clear hb); (try clear hb2); (try clear hk); (try clear hi); have hcz31_0 : w30.cell? ⟨gb476, 0, none⟩ = some (.int .i64 0) := (blk_cell BK476.out 0).trans rfl; have hcz31_1 : w30.cell? ⟨gb476, 1, none⟩ = some (.int .i64 0) := (blk_cell BK476.out 1).trans rfl; have hcz31_2 : w30.cell? ⟨gb476, 2, none⟩ = some (.string (⟨#[]⟩ : ByteArray)) := (blk_cell BK476.out 2).trans rfl; have hcz31_3 : w30.cell? ⟨gb476, 3, none⟩ = some (.bool false) := (blk_cell BK476.out 3).trans rfl; have hfz31_0 := blk_frozen BK476.out 0; have hfz31_1 := blk_frozen BK476.out 1; have hfz31_2 := blk_frozen BK476.out 2; have hfz31_3 := blk_frozen BK476.out 3))
                    refine bodyPost_ret (results_ct rfl _ _ gb476 26 #[.int .i64 t482, .int .i64 t483, .string t484, .bool t485] (0, 0) _ rfl (by (with_reducible repeat (first | refine blk_drewN ?_ _ | refine blk_drew ?_ | refine blk_alloc ?_ _)); refine blk_put (cs := #[.int .i64 t482, .int .i64 t483, .string t484, .bool false]) ?_ 3 _ rfl; (with_reducible repeat (first | refine blk_drewN ?_ _ | refine blk_drew ?_ | refine blk_alloc ?_ _)); refine blk_put (cs := #[.int .i64 t482, .int .i64 t483, .string (⟨#[]⟩ : ByteArray), .bool false]) ?_ 2 _ rfl; (with_reducible repeat (first | refine blk_drewN ?_ _ | refine blk_drew ?_ | refine blk_alloc ?_ _)); refine blk_put (cs := #[.int .i64 t482, .int .i64 0, .string (⟨#[]⟩ : ByteArray), .bool false]) ?_ 1 _ rfl; (with_reducible repeat (first | refine blk_drewN ?_ _ | refine blk_drew ?_ | refine blk_alloc ?_ _)); refine blk_put (cs := #[.int .i64 0, .int .i64 0, .string (⟨#[]⟩ : ByteArray), .bool false]) ?_ 0 _ rfl; (with_reducible repeat (first | refine blk_drewN ?_ _ | refine blk_drew ?_ | refine blk_alloc ?_ _)); exact BK476.out) Tryd.underlying26 rfl (by kernel_rfl)) rfl ?_
                    exact ⟨by first | rfl | (simp [errW_none, errW_some] <;> rfl) | (simp [*, errW_none, errW_some] <;> rfl), by repeat (first | (with_reducible first | exact HB.out | apply below_alloc | apply pw_below_drewN | apply below_drew1 | refine below_set ?_ GE475.out | refine below_set ?_ GE476.out) | exact HB.out)⟩
                  · rw [if_neg c26] at H
                    have c26b0 : (a1_0 == 3) = false := beq_eq_false_iff_ne.mpr c26
                    have c26b1 : (a1_0 != 3) = true := bne_iff_ne.mpr c26
                    simp only [Option.some.injEq, Prod.mk.injEq] at H
                    obtain ⟨rfl, rfl, rfl, rfl, rfl⟩ := H
                    have hnb32 := NB475_476.out
                    have hnc32 := NB476_475.out
                    have hcz33_0 : wc.cell? ⟨gb475, 0, none⟩ = some (.int .i64 a1_0) := (blk_cell BK475.out 0).trans rfl
                    have hcz33_1 : wc.cell? ⟨gb475, 1, none⟩ = some (.int .i64 a1_1) := (blk_cell BK475.out 1).trans rfl
                    have hcz33_2 : wc.cell? ⟨gb475, 2, none⟩ = some (.string a1_2) := (blk_cell BK475.out 2).trans rfl
                    have hcz33_3 : wc.cell? ⟨gb475, 3, none⟩ = some (.bool a1_3) := (blk_cell BK475.out 3).trans rfl
                    have hfz33_0 := blk_frozen BK475.out 0
                    have hfz33_1 := blk_frozen BK475.out 1
                    have hfz33_2 := blk_frozen BK475.out 2
                    have hfz33_3 := blk_frozen BK475.out 3
                    have hcz34_0 : wc.cell? ⟨gb476, 0, none⟩ = some (.int .i64 0) := (blk_cell BK476.out 0).trans rfl
                    have hcz34_1 : wc.cell? ⟨gb476, 1, none⟩ = some (.int .i64 0) := (blk_cell BK476.out 1).trans rfl
                    have hcz34_2 : wc.cell? ⟨gb476, 2, none⟩ = some (.string (⟨#[]⟩ : ByteArray)) := (blk_cell BK476.out 2).trans rfl
                    have hcz34_3 : wc.cell? ⟨gb476, 3, none⟩ = some (.bool false) := (blk_cell BK476.out 3).trans rfl
                    have hfz34_0 := blk_frozen BK476.out 0
                    have hfz34_1 := blk_frozen BK476.out 1
                    have hfz34_2 := blk_frozen BK476.out 2
                    have hfz34_3 := blk_frozen BK476.out 3
                    go_wp2
                    refine bodyPost_ret (results_ct rfl _ _ gb476 26 #[.int .i64 0, .int .i64 0, .string (⟨#[]⟩ : ByteArray), .bool false] (0, 0) _ rfl (by (with_reducible repeat (first | refine blk_drewN ?_ _ | refine blk_drew ?_ | refine blk_alloc ?_ _)); refine blk_put (cs := #[.int .i64 0, .int .i64 0, .string (⟨#[]⟩ : ByteArray), .bool false]) ?_ 3 _ rfl; (with_reducible repeat (first | refine blk_drewN ?_ _ | refine blk_drew ?_ | refine blk_alloc ?_ _)); refine blk_put (cs := #[.int .i64 0, .int .i64 0, .string (⟨#[]⟩ : ByteArray), .bool false]) ?_ 2 _ rfl; (with_reducible repeat (first | refine blk_drewN ?_ _ | refine blk_drew ?_ | refine blk_alloc ?_ _)); refine blk_put (cs := #[.int .i64 0, .int .i64 0, .string (⟨#[]⟩ : ByteArray), .bool false]) ?_ 1 _ rfl; (with_reducible repeat (first | refine blk_drewN ?_ _ | refine blk_drew ?_ | refine blk_alloc ?_ _)); refine blk_put (cs := #[.int .i64 0, .int .i64 0, .string (⟨#[]⟩ : ByteArray), .bool false]) ?_ 0 _ rfl; (with_reducible repeat (first | refine blk_drewN ?_ _ | refine blk_drew ?_ | refine blk_alloc ?_ _)); exact BK476.out) Tryd.underlying26 rfl (by kernel_rfl)) rfl ?_
                    exact ⟨by first | rfl | (simp [errW_none, errW_some] <;> rfl) | (simp [*, errW_none, errW_some] <;> rfl), by repeat (first | (with_reducible first | exact HB.out | apply below_alloc | apply pw_below_drewN | apply below_drew1 | refine below_set ?_ GE475.out | refine below_set ?_ GE476.out) | exact HB.out)⟩
                · rw [if_neg c25] at H
                  have c25b0 : (a0 == 2) = false := beq_eq_false_iff_ne.mpr c25
                  have c25b1 : (a0 != 2) = true := bne_iff_ne.mpr c25
                  simp only [Option.some.injEq, Prod.mk.injEq] at H
                  obtain ⟨rfl, rfl, rfl, rfl, rfl⟩ := H
                  have hnb35 := NB476_475.out
                  have hnc35 := NB475_476.out
                  have hcz36_0 : wc.cell? ⟨gb476, 0, none⟩ = some (.int .i64 0) := (blk_cell BK476.out 0).trans rfl
                  have hcz36_1 : wc.cell? ⟨gb476, 1, none⟩ = some (.int .i64 0) := (blk_cell BK476.out 1).trans rfl
                  have hcz36_2 : wc.cell? ⟨gb476, 2, none⟩ = some (.string (⟨#[]⟩ : ByteArray)) := (blk_cell BK476.out 2).trans rfl
                  have hcz36_3 : wc.cell? ⟨gb476, 3, none⟩ = some (.bool false) := (blk_cell BK476.out 3).trans rfl
                  have hfz36_0 := blk_frozen BK476.out 0
                  have hfz36_1 := blk_frozen BK476.out 1
                  have hfz36_2 := blk_frozen BK476.out 2
                  have hfz36_3 := blk_frozen BK476.out 3
                  go_wp2
                  refine bodyPost_ret (results_ct rfl _ _ gb476 26 #[.int .i64 0, .int .i64 0, .string (⟨#[]⟩ : ByteArray), .bool false] (0, 0) _ rfl (by (with_reducible repeat (first | refine blk_drewN ?_ _ | refine blk_drew ?_ | refine blk_alloc ?_ _)); refine blk_put (cs := #[.int .i64 0, .int .i64 0, .string (⟨#[]⟩ : ByteArray), .bool false]) ?_ 3 _ rfl; (with_reducible repeat (first | refine blk_drewN ?_ _ | refine blk_drew ?_ | refine blk_alloc ?_ _)); refine blk_put (cs := #[.int .i64 0, .int .i64 0, .string (⟨#[]⟩ : ByteArray), .bool false]) ?_ 2 _ rfl; (with_reducible repeat (first | refine blk_drewN ?_ _ | refine blk_drew ?_ | refine blk_alloc ?_ _)); refine blk_put (cs := #[.int .i64 0, .int .i64 0, .string (⟨#[]⟩ : ByteArray), .bool false]) ?_ 1 _ rfl; (with_reducible repeat (first | refine blk_drewN ?_ _ | refine blk_drew ?_ | refine blk_alloc ?_ _)); refine blk_put (cs := #[.int .i64 0, .int .i64 0, .string (⟨#[]⟩ : ByteArray), .bool false]) ?_ 0 _ rfl; (with_reducible repeat (first | refine blk_drewN ?_ _ | refine blk_drew ?_ | refine blk_alloc ?_ _)); exact BK476.out) Tryd.underlying26 rfl (by kernel_rfl)) rfl ?_
                  exact ⟨by first | rfl | (simp [errW_none, errW_some] <;> rfl) | (simp [*, errW_none, errW_some] <;> rfl), by repeat (first | (with_reducible first | exact HB.out | apply below_alloc | apply pw_below_drewN | apply below_drew1 | refine below_set ?_ GE475.out | refine below_set ?_ GE476.out) | exact HB.out)⟩
        · replace c11 := Bool.eq_false_iff.mpr c11
          subst c11
          have H1 : (some (0, 0, (⟨#[]⟩ : ByteArray), false, 12)) = some (r1, r2, r3, r4, r5) := by rw [if_neg (show ¬ (false = true) by decide)] at H; exact H
          clear H
          have H := H1
          clear H1
          simp only [Option.some.injEq, Prod.mk.injEq] at H
          obtain ⟨rfl, rfl, rfl, rfl, rfl⟩ := H
          have hnb37 := NB475_476.out
          have hnc37 := NB476_475.out
          have hcz38_0 : wc.cell? ⟨gb475, 0, none⟩ = some (.int .i64 a1_0) := (blk_cell BK475.out 0).trans rfl
          have hcz38_1 : wc.cell? ⟨gb475, 1, none⟩ = some (.int .i64 a1_1) := (blk_cell BK475.out 1).trans rfl
          have hcz38_2 : wc.cell? ⟨gb475, 2, none⟩ = some (.string a1_2) := (blk_cell BK475.out 2).trans rfl
          have hcz38_3 : wc.cell? ⟨gb475, 3, none⟩ = some (.bool a1_3) := (blk_cell BK475.out 3).trans rfl
          have hfz38_0 := blk_frozen BK475.out 0
          have hfz38_1 := blk_frozen BK475.out 1
          have hfz38_2 := blk_frozen BK475.out 2
          have hfz38_3 := blk_frozen BK475.out 3
          go_wp2_with (first | ((with_reducible refine gate_callee (f := 12) rfl ?_); refine goesL_ (some 15) rfl rfl Tryd.func12 (by kernel_rfl) rfl #[.agg #[.int .i64 a1_0, .int .i64 a1_1, .string a1_2, .bool a1_3]] rfl (by (try simp only [List.map_toArray, List.map_cons, List.map_nil]); first | done | rfl | (simp only [List.length_drop, List.length_take]; rfl)) ?_; (with_reducible refine (refrainref1_Valid.calls a1_0 a1_1 a1_2 a1_3 false _ A10.out).mono ?_); rintro e w39 ⟨rfl, hb⟩; refine ⟨_, rfl, ?_⟩; have n0_ := Aside0.mk (blk_below (g := gb475) (o := .cells #[.int .i64 a1_0, .int .i64 a1_1, .string a1_2, .bool a1_3] 26 (0, 0)) (by (with_reducible repeat (first | refine blk_drewN ?_ _ | refine blk_drew ?_ | refine blk_alloc ?_ _)); exact BK475.out) hb); have n1_ := Aside0.mk (blk_below (g := gb476) (o := .cells #[.int .i64 0, .int .i64 0, .string (⟨#[]⟩ : ByteArray), .bool false] 26 (0, 0)) (by (with_reducible repeat (first | refine blk_drewN ?_ _ | refine blk_drew ?_ | refine blk_alloc ?_ _)); exact BK476.out) hb); have n2_ := Aside0.mk (below_step (by repeat (first | (with_reducible first | exact HB.out | apply below_alloc | apply pw_below_drewN | apply below_drew1 | refine below_set ?_ GE475.out | refine below_set ?_ GE476.out) | exact HB.out)) hb); clear BK475; clear BK476; clear HB; have BK475 := n0_; have BK476 := n1_; have HB := n2_; clear n0_ n1_ n2_; (try clear hb); (try clear hb2); (try clear hk); (try clear hi); have hcz40_0 : w39.cell? ⟨gb476, 0, none⟩ = some (.int .i64 0) := (blk_cell BK476.out 0).trans rfl; have hcz40_1 : w39.cell? ⟨gb476, 1, none⟩ = some (.int .i64 0) := (blk_cell BK476.out 1).trans rfl; have hcz40_2 : w39.cell? ⟨gb476, 2, none⟩ = some (.string (⟨#[]⟩ : ByteArray)) := (blk_cell BK476.out 2).trans rfl; have hcz40_3 : w39.cell? ⟨gb476, 3, none⟩ = some (.bool false) := (blk_cell BK476.out 3).trans rfl; have hfz40_0 := blk_frozen BK476.out 0; have hfz40_1 := blk_frozen BK476.out 1; have hfz40_2 := blk_frozen BK476.out 2; have hfz40_3 := blk_frozen BK476.out 3))
          refine bodyPost_ret (results_ct rfl _ _ gb476 26 #[.int .i64 0, .int .i64 0, .string (⟨#[]⟩ : ByteArray), .bool false] (0, 0) _ rfl (by (with_reducible repeat (first | refine blk_drewN ?_ _ | refine blk_drew ?_ | refine blk_alloc ?_ _)); refine blk_put (cs := #[.int .i64 0, .int .i64 0, .string (⟨#[]⟩ : ByteArray), .bool false]) ?_ 3 _ rfl; (with_reducible repeat (first | refine blk_drewN ?_ _ | refine blk_drew ?_ | refine blk_alloc ?_ _)); refine blk_put (cs := #[.int .i64 0, .int .i64 0, .string (⟨#[]⟩ : ByteArray), .bool false]) ?_ 2 _ rfl; (with_reducible repeat (first | refine blk_drewN ?_ _ | refine blk_drew ?_ | refine blk_alloc ?_ _)); refine blk_put (cs := #[.int .i64 0, .int .i64 0, .string (⟨#[]⟩ : ByteArray), .bool false]) ?_ 1 _ rfl; (with_reducible repeat (first | refine blk_drewN ?_ _ | refine blk_drew ?_ | refine blk_alloc ?_ _)); refine blk_put (cs := #[.int .i64 0, .int .i64 0, .string (⟨#[]⟩ : ByteArray), .bool false]) ?_ 0 _ rfl; (with_reducible repeat (first | refine blk_drewN ?_ _ | refine blk_drew ?_ | refine blk_alloc ?_ _)); exact BK476.out) Tryd.underlying26 rfl (by kernel_rfl)) rfl ?_
          exact ⟨by first | rfl | (simp [errW_none, errW_some] <;> rfl) | (simp [*, errW_none, errW_some] <;> rfl), by repeat (first | (with_reducible first | exact HB.out | apply below_alloc | apply pw_below_drewN | apply below_drew1 | refine below_set ?_ GE475.out | refine below_set ?_ GE476.out) | exact HB.out)⟩

/-! ### refrainlaw1_of: function 24 -/
def refrainlaw1_of.f (k : Nat) (a0 : Int) (a1 : Int) (a2 : Int) : Option (Int × Bool) := (value_Binary.f k a0 1 a1 (⟨#[]⟩ : ByteArray) false 1 a2 (⟨#[]⟩ : ByteArray) false).bind fun bt505 => (if bt505.2.2.2.2 = 0 then (some (bt505.2.1, (bt505.1 == 1))) else (some (bt505.2.1, false)))
set_option maxRecDepth 100000 in
theorem refrainlaw1_of.mono : ∀ a0 a1 a2 k, LeO (refrainlaw1_of.f k a0 a1 a2) (refrainlaw1_of.f (k + 1) a0 a1 a2) := by
  intro a0 a1 a2 k
  unfold refrainlaw1_of.f
  repeat' first
      | (with_reducible exact value_Binary.mono _ _ _ _ _ _ _ _ _ _)
      | (with_reducible exact LeO.refl _)
      | (with_reducible exact LeO.none _)
      | (with_reducible refine LeO.ite ?_ ?_)
      | (with_reducible refine LeO.bind ?_ (fun _ => ?_))
      | exact value_Binary.mono _ _ _ _ _ _ _ _ _ _
      | exact LeO.none _
      | refine LeO.ite ?_ ?_
      | refine LeO.bind ?_ (fun _ => ?_)
set_option maxHeartbeats 8000000 in
set_option maxRecDepth 100000 in
theorem refrainlaw1_of.calls (k : Nat) (a0 : Int) (a1 : Int) (a2 : Int) (r1 : Int) (r2 : Bool) (w : World) (HL_LG0 : Aside0 (LG0 w)) (h : refrainlaw1_of.f k a0 a1 a2 = some (r1, r2)) :
    Calls Tryd.prog 24 #[.int .i64 a0, .int .i64 a1, .int .i64 a2] w fun e w' => e = .returned (.tuple #[.int .i64 r1, .bool r2]) ∧ Below w.heap.size w w' := by
  have hu26 := Tryd.underlying26
  have HB := Aside0.mk (Below.refl w.heap.size w)
  have H : ((value_Binary.f k a0 1 a1 (⟨#[]⟩ : ByteArray) false 1 a2 (⟨#[]⟩ : ByteArray) false).bind fun bt505 => (if bt505.2.2.2.2 = 0 then (some (bt505.2.1, (bt505.1 == 1))) else (some (bt505.2.1, false)))) = some (r1, r2) := h
  clear h
  replace H := Option.bind_eq_some_iff.mp H
  obtain ⟨⟨t505, t506, t507, t508, t509⟩, A40, H⟩ := H
  replace H : (if t509 = 0 then (some (t506, (t505 == 1))) else (some (t506, false))) = some (r1, r2) := H
  have A4 := Aside0.mk A40
  clear A40
  by_cases c5 : t509 = 0
  · rw [if_pos c5] at H
    have c5b0 : (t509 == 0) = true := beq_iff_eq.mpr c5
    have c5b1 : (t509 != 0) = false := bne_eq_false_iff_eq.mpr c5
    clear c5
    simp only [Option.some.injEq, Prod.mk.injEq] at H
    obtain ⟨rfl, rfl⟩ := H
    go_enter Tryd.func24, Tryd.ntmps24
    go_wp2_with (first | (go_at_call 20; (with_reducible refine (value_Binary.calls k a0 1 a1 (⟨#[]⟩ : ByteArray) false 1 a2 (⟨#[]⟩ : ByteArray) false t505 t506 t507 t508 t509 _ ?side1 A4.out).mono ?_); (case side1 => first | (with_reducible exact HL_LG0) | exact ⟨LG0.below HL_LG0.out (by repeat (first | (with_reducible first | exact HB.out | apply below_alloc | apply pw_below_drewN | apply below_drew1) | exact HB.out))⟩); rintro e w6 ⟨rfl, hb⟩; have n0_ := Aside0.mk (below_step (by repeat (first | (with_reducible first | exact HB.out | apply below_alloc | apply pw_below_drewN | apply below_drew1) | exact HB.out)) hb); clear HB; have HB := n0_; clear n0_; (try clear hb); (try clear hb2); (try clear hk); (try clear hi)) | ((with_reducible refine gate_dst (N := 8) rfl ?_); refine box_event ?hg (N := 8) ?hd (cs := #[.int .i64 0, .int .i64 0, .string (⟨#[]⟩ : ByteArray), .bool false]) (t := 26) ?hr ?_; (case hd => rfl); (case hg => rfl); (case hr => first | (go_simp; done) | (go_simp; rfl)); intro gb510 hg w7 hbox hb; have n0_ := Aside0.mk (below_step (by repeat (first | (with_reducible first | exact HB.out | apply below_alloc | apply pw_below_drewN | apply below_drew1) | exact HB.out)) hb); have n1_ := Aside0.mk (hbox); have n2_ := Aside0.mk ((by rw [hg]; exact (below_size (by repeat (first | (with_reducible first | exact HB.out | apply below_alloc | apply pw_below_drewN | apply below_drew1) | exact HB.out))) : w.heap.size ≤ gb510)); have n3_ := Aside0.mk ((by rw [hg]; exact (below_size (by repeat (first | (with_reducible first | exact HB.out | apply below_alloc | apply pw_below_drewN | apply below_drew1) | exact HB.out))) : w.heap.size ≤ gb510)); clear HB; have HB := n0_; have BK510 := n1_; have GW510 := n2_; have GE510 := n3_; clear n0_ n1_ n2_ n3_; clear hb hbox hg; have hcz8_0 : w7.cell? ⟨gb510, 0, none⟩ = some (.int .i64 0) := (blk_cell BK510.out 0).trans rfl; have hcz8_1 : w7.cell? ⟨gb510, 1, none⟩ = some (.int .i64 0) := (blk_cell BK510.out 1).trans rfl; have hcz8_2 : w7.cell? ⟨gb510, 2, none⟩ = some (.string (⟨#[]⟩ : ByteArray)) := (blk_cell BK510.out 2).trans rfl; have hcz8_3 : w7.cell? ⟨gb510, 3, none⟩ = some (.bool false) := (blk_cell BK510.out 3).trans rfl; have hfz8_0 := blk_frozen BK510.out 0; have hfz8_1 := blk_frozen BK510.out 1; have hfz8_2 := blk_frozen BK510.out 2; have hfz8_3 := blk_frozen BK510.out 3))
    repeat (go_quiet (first | (go_at_call 20; (with_reducible refine (value_Binary.calls k a0 1 a1 (⟨#[]⟩ : ByteArray) false 1 a2 (⟨#[]⟩ : ByteArray) false t505 t506 t507 t508 t509 _ ?side1 A4.out).mono ?_); (case side1 => first | (with_reducible exact HL_LG0) | exact ⟨LG0.below HL_LG0.out (by repeat (first | (with_reducible first | exact HB.out | apply below_alloc | apply pw_below_drewN | apply below_drew1) | exact HB.out))⟩); rintro e w6 ⟨rfl, hb⟩; have n0_ := Aside0.mk (below_step (by repeat (first | (with_reducible first | exact HB.out | apply below_alloc | apply pw_below_drewN | apply below_drew1) | exact HB.out)) hb); clear HB; have HB := n0_; clear n0_; (try clear hb); (try clear hb2); (try clear hk); (try clear hi)) | ((with_reducible refine gate_dst (N := 8) rfl ?_); refine box_event ?hg (N := 8) ?hd (cs := #[.int .i64 0, .int .i64 0, .string (⟨#[]⟩ : ByteArray), .bool false]) (t := 26) ?hr ?_; (case hd => rfl); (case hg => rfl); (case hr => first | (go_simp; done) | (go_simp; rfl)); intro gb510 hg w7 hbox hb; have n0_ := Aside0.mk (below_step (by repeat (first | (with_reducible first | exact HB.out | apply below_alloc | apply pw_below_drewN | apply below_drew1) | exact HB.out)) hb); have n1_ := Aside0.mk (hbox); have n2_ := Aside0.mk ((by rw [hg]; exact (below_size (by repeat (first | (with_reducible first | exact HB.out | apply below_alloc | apply pw_below_drewN | apply below_drew1) | exact HB.out))) : w.heap.size ≤ gb510)); have n3_ := Aside0.mk ((by rw [hg]; exact (below_size (by repeat (first | (with_reducible first | exact HB.out | apply below_alloc | apply pw_below_drewN | apply below_drew1) | exact HB.out))) : w.heap.size ≤ gb510)); clear HB; have HB := n0_; have BK510 := n1_; have GW510 := n2_; have GE510 := n3_; clear n0_ n1_ n2_ n3_; clear hb hbox hg; have hcz8_0 : w7.cell? ⟨gb510, 0, none⟩ = some (.int .i64 0) := (blk_cell BK510.out 0).trans rfl; have hcz8_1 : w7.cell? ⟨gb510, 1, none⟩ = some (.int .i64 0) := (blk_cell BK510.out 1).trans rfl; have hcz8_2 : w7.cell? ⟨gb510, 2, none⟩ = some (.string (⟨#[]⟩ : ByteArray)) := (blk_cell BK510.out 2).trans rfl; have hcz8_3 : w7.cell? ⟨gb510, 3, none⟩ = some (.bool false) := (blk_cell BK510.out 3).trans rfl; have hfz8_0 := blk_frozen BK510.out 0; have hfz8_1 := blk_frozen BK510.out 1; have hfz8_2 := blk_frozen BK510.out 2; have hfz8_3 := blk_frozen BK510.out 3)); try go_wp2_with (first | (go_at_call 20; (with_reducible refine (value_Binary.calls k a0 1 a1 (⟨#[]⟩ : ByteArray) false 1 a2 (⟨#[]⟩ : ByteArray) false t505 t506 t507 t508 t509 _ ?side1 A4.out).mono ?_); (case side1 => first | (with_reducible exact HL_LG0) | exact ⟨LG0.below HL_LG0.out (by repeat (first | (with_reducible first | exact HB.out | apply below_alloc | apply pw_below_drewN | apply below_drew1) | exact HB.out))⟩); rintro e w6 ⟨rfl, hb⟩; have n0_ := Aside0.mk (below_step (by repeat (first | (with_reducible first | exact HB.out | apply below_alloc | apply pw_below_drewN | apply below_drew1) | exact HB.out)) hb); clear HB; have HB := n0_; clear n0_; (try clear hb); (try clear hb2); (try clear hk); (try clear hi)) | ((with_reducible refine gate_dst (N := 8) rfl ?_); refine box_event ?hg (N := 8) ?hd (cs := #[.int .i64 0, .int .i64 0, .string (⟨#[]⟩ : ByteArray), .bool false]) (t := 26) ?hr ?_; (case hd => rfl); (case hg => rfl); (case hr => first | (go_simp; done) | (go_simp; rfl)); intro gb510 hg w7 hbox hb; have n0_ := Aside0.mk (below_step (by repeat (first | (with_reducible first | exact HB.out | apply below_alloc | apply pw_below_drewN | apply below_drew1) | exact HB.out)) hb); have n1_ := Aside0.mk (hbox); have n2_ := Aside0.mk ((by rw [hg]; exact (below_size (by repeat (first | (with_reducible first | exact HB.out | apply below_alloc | apply pw_below_drewN | apply below_drew1) | exact HB.out))) : w.heap.size ≤ gb510)); have n3_ := Aside0.mk ((by rw [hg]; exact (below_size (by repeat (first | (with_reducible first | exact HB.out | apply below_alloc | apply pw_below_drewN | apply below_drew1) | exact HB.out))) : w.heap.size ≤ gb510)); clear HB; have HB := n0_; have BK510 := n1_; have GW510 := n2_; have GE510 := n3_; clear n0_ n1_ n2_ n3_; clear hb hbox hg; have hcz8_0 : w7.cell? ⟨gb510, 0, none⟩ = some (.int .i64 0) := (blk_cell BK510.out 0).trans rfl; have hcz8_1 : w7.cell? ⟨gb510, 1, none⟩ = some (.int .i64 0) := (blk_cell BK510.out 1).trans rfl; have hcz8_2 : w7.cell? ⟨gb510, 2, none⟩ = some (.string (⟨#[]⟩ : ByteArray)) := (blk_cell BK510.out 2).trans rfl; have hcz8_3 : w7.cell? ⟨gb510, 3, none⟩ = some (.bool false) := (blk_cell BK510.out 3).trans rfl; have hfz8_0 := blk_frozen BK510.out 0; have hfz8_1 := blk_frozen BK510.out 1; have hfz8_2 := blk_frozen BK510.out 2; have hfz8_3 := blk_frozen BK510.out 3)))
    go_ret2
    exact ⟨by first | rfl | (simp [errW_none, errW_some] <;> rfl) | (simp [*, errW_none, errW_some] <;> rfl), by repeat (first | (with_reducible first | exact HB.out | apply below_alloc | apply pw_below_drewN | apply below_drew1 | refine below_set ?_ GE510.out) | exact HB.out)⟩
  · rw [if_neg c5] at H
    have c5b0 : (t509 == 0) = false := beq_eq_false_iff_ne.mpr c5
    have c5b1 : (t509 != 0) = true := bne_iff_ne.mpr c5
    simp only [Option.some.injEq, Prod.mk.injEq] at H
    obtain ⟨rfl, rfl⟩ := H
    go_enter Tryd.func24, Tryd.ntmps24
    go_wp2_with (first | (go_at_call 20; (with_reducible refine (value_Binary.calls k a0 1 a1 (⟨#[]⟩ : ByteArray) false 1 a2 (⟨#[]⟩ : ByteArray) false t505 t506 t507 t508 t509 _ ?side1 A4.out).mono ?_); (case side1 => first | (with_reducible exact HL_LG0) | exact ⟨LG0.below HL_LG0.out (by repeat (first | (with_reducible first | exact HB.out | apply below_alloc | apply pw_below_drewN | apply below_drew1) | exact HB.out))⟩); rintro e w9 ⟨rfl, hb⟩; have n0_ := Aside0.mk (below_step (by repeat (first | (with_reducible first | exact HB.out | apply below_alloc | apply pw_below_drewN | apply below_drew1) | exact HB.out)) hb); clear HB; have HB := n0_; clear n0_; (try clear hb); (try clear hb2); (try clear hk); (try clear hi)) | ((with_reducible refine gate_dst (N := 8) rfl ?_); refine box_event ?hg (N := 8) ?hd (cs := #[.int .i64 0, .int .i64 0, .string (⟨#[]⟩ : ByteArray), .bool false]) (t := 26) ?hr ?_; (case hd => rfl); (case hg => rfl); (case hr => first | (go_simp; done) | (go_simp; rfl)); intro gb510 hg w10 hbox hb; have n0_ := Aside0.mk (below_step (by repeat (first | (with_reducible first | exact HB.out | apply below_alloc | apply pw_below_drewN | apply below_drew1) | exact HB.out)) hb); have n1_ := Aside0.mk (hbox); have n2_ := Aside0.mk ((by rw [hg]; exact (below_size (by repeat (first | (with_reducible first | exact HB.out | apply below_alloc | apply pw_below_drewN | apply below_drew1) | exact HB.out))) : w.heap.size ≤ gb510)); have n3_ := Aside0.mk ((by rw [hg]; exact (below_size (by repeat (first | (with_reducible first | exact HB.out | apply below_alloc | apply pw_below_drewN | apply below_drew1) | exact HB.out))) : w.heap.size ≤ gb510)); clear HB; have HB := n0_; have BK510 := n1_; have GW510 := n2_; have GE510 := n3_; clear n0_ n1_ n2_ n3_; clear hb hbox hg; have hcz11_0 : w10.cell? ⟨gb510, 0, none⟩ = some (.int .i64 0) := (blk_cell BK510.out 0).trans rfl; have hcz11_1 : w10.cell? ⟨gb510, 1, none⟩ = some (.int .i64 0) := (blk_cell BK510.out 1).trans rfl; have hcz11_2 : w10.cell? ⟨gb510, 2, none⟩ = some (.string (⟨#[]⟩ : ByteArray)) := (blk_cell BK510.out 2).trans rfl; have hcz11_3 : w10.cell? ⟨gb510, 3, none⟩ = some (.bool false) := (blk_cell BK510.out 3).trans rfl; have hfz11_0 := blk_frozen BK510.out 0; have hfz11_1 := blk_frozen BK510.out 1; have hfz11_2 := blk_frozen BK510.out 2; have hfz11_3 := blk_frozen BK510.out 3))
    repeat (go_quiet (first | (go_at_call 20; (with_reducible refine (value_Binary.calls k a0 1 a1 (⟨#[]⟩ : ByteArray) false 1 a2 (⟨#[]⟩ : ByteArray) false t505 t506 t507 t508 t509 _ ?side1 A4.out).mono ?_); (case side1 => first | (with_reducible exact HL_LG0) | exact ⟨LG0.below HL_LG0.out (by repeat (first | (with_reducible first | exact HB.out | apply below_alloc | apply pw_below_drewN | apply below_drew1) | exact HB.out))⟩); rintro e w9 ⟨rfl, hb⟩; have n0_ := Aside0.mk (below_step (by repeat (first | (with_reducible first | exact HB.out | apply below_alloc | apply pw_below_drewN | apply below_drew1) | exact HB.out)) hb); clear HB; have HB := n0_; clear n0_; (try clear hb); (try clear hb2); (try clear hk); (try clear hi)) | ((with_reducible refine gate_dst (N := 8) rfl ?_); refine box_event ?hg (N := 8) ?hd (cs := #[.int .i64 0, .int .i64 0, .string (⟨#[]⟩ : ByteArray), .bool false]) (t := 26) ?hr ?_; (case hd => rfl); (case hg => rfl); (case hr => first | (go_simp; done) | (go_simp; rfl)); intro gb510 hg w10 hbox hb; have n0_ := Aside0.mk (below_step (by repeat (first | (with_reducible first | exact HB.out | apply below_alloc | apply pw_below_drewN | apply below_drew1) | exact HB.out)) hb); have n1_ := Aside0.mk (hbox); have n2_ := Aside0.mk ((by rw [hg]; exact (below_size (by repeat (first | (with_reducible first | exact HB.out | apply below_alloc | apply pw_below_drewN | apply below_drew1) | exact HB.out))) : w.heap.size ≤ gb510)); have n3_ := Aside0.mk ((by rw [hg]; exact (below_size (by repeat (first | (with_reducible first | exact HB.out | apply below_alloc | apply pw_below_drewN | apply below_drew1) | exact HB.out))) : w.heap.size ≤ gb510)); clear HB; have HB := n0_; have BK510 := n1_; have GW510 := n2_; have GE510 := n3_; clear n0_ n1_ n2_ n3_; clear hb hbox hg; have hcz11_0 : w10.cell? ⟨gb510, 0, none⟩ = some (.int .i64 0) := (blk_cell BK510.out 0).trans rfl; have hcz11_1 : w10.cell? ⟨gb510, 1, none⟩ = some (.int .i64 0) := (blk_cell BK510.out 1).trans rfl; have hcz11_2 : w10.cell? ⟨gb510, 2, none⟩ = some (.string (⟨#[]⟩ : ByteArray)) := (blk_cell BK510.out 2).trans rfl; have hcz11_3 : w10.cell? ⟨gb510, 3, none⟩ = some (.bool false) := (blk_cell BK510.out 3).trans rfl; have hfz11_0 := blk_frozen BK510.out 0; have hfz11_1 := blk_frozen BK510.out 1; have hfz11_2 := blk_frozen BK510.out 2; have hfz11_3 := blk_frozen BK510.out 3)); try go_wp2_with (first | (go_at_call 20; (with_reducible refine (value_Binary.calls k a0 1 a1 (⟨#[]⟩ : ByteArray) false 1 a2 (⟨#[]⟩ : ByteArray) false t505 t506 t507 t508 t509 _ ?side1 A4.out).mono ?_); (case side1 => first | (with_reducible exact HL_LG0) | exact ⟨LG0.below HL_LG0.out (by repeat (first | (with_reducible first | exact HB.out | apply below_alloc | apply pw_below_drewN | apply below_drew1) | exact HB.out))⟩); rintro e w9 ⟨rfl, hb⟩; have n0_ := Aside0.mk (below_step (by repeat (first | (with_reducible first | exact HB.out | apply below_alloc | apply pw_below_drewN | apply below_drew1) | exact HB.out)) hb); clear HB; have HB := n0_; clear n0_; (try clear hb); (try clear hb2); (try clear hk); (try clear hi)) | ((with_reducible refine gate_dst (N := 8) rfl ?_); refine box_event ?hg (N := 8) ?hd (cs := #[.int .i64 0, .int .i64 0, .string (⟨#[]⟩ : ByteArray), .bool false]) (t := 26) ?hr ?_; (case hd => rfl); (case hg => rfl); (case hr => first | (go_simp; done) | (go_simp; rfl)); intro gb510 hg w10 hbox hb; have n0_ := Aside0.mk (below_step (by repeat (first | (with_reducible first | exact HB.out | apply below_alloc | apply pw_below_drewN | apply below_drew1) | exact HB.out)) hb); have n1_ := Aside0.mk (hbox); have n2_ := Aside0.mk ((by rw [hg]; exact (below_size (by repeat (first | (with_reducible first | exact HB.out | apply below_alloc | apply pw_below_drewN | apply below_drew1) | exact HB.out))) : w.heap.size ≤ gb510)); have n3_ := Aside0.mk ((by rw [hg]; exact (below_size (by repeat (first | (with_reducible first | exact HB.out | apply below_alloc | apply pw_below_drewN | apply below_drew1) | exact HB.out))) : w.heap.size ≤ gb510)); clear HB; have HB := n0_; have BK510 := n1_; have GW510 := n2_; have GE510 := n3_; clear n0_ n1_ n2_ n3_; clear hb hbox hg; have hcz11_0 : w10.cell? ⟨gb510, 0, none⟩ = some (.int .i64 0) := (blk_cell BK510.out 0).trans rfl; have hcz11_1 : w10.cell? ⟨gb510, 1, none⟩ = some (.int .i64 0) := (blk_cell BK510.out 1).trans rfl; have hcz11_2 : w10.cell? ⟨gb510, 2, none⟩ = some (.string (⟨#[]⟩ : ByteArray)) := (blk_cell BK510.out 2).trans rfl; have hcz11_3 : w10.cell? ⟨gb510, 3, none⟩ = some (.bool false) := (blk_cell BK510.out 3).trans rfl; have hfz11_0 := blk_frozen BK510.out 0; have hfz11_1 := blk_frozen BK510.out 1; have hfz11_2 := blk_frozen BK510.out 2; have hfz11_3 := blk_frozen BK510.out 3)))
    go_ret2
    exact ⟨by first | rfl | (simp [errW_none, errW_some] <;> rfl) | (simp [*, errW_none, errW_some] <;> rfl), by repeat (first | (with_reducible first | exact HB.out | apply below_alloc | apply pw_below_drewN | apply below_drew1 | refine below_set ?_ GE510.out) | exact HB.out)⟩

end Go.Proofs.YthhpeeckiggpaaaDoor.Pr

-- printed by a patched copy of the kit's print, for this seat
import Derived.Test.YthhpeeckiggpaaaDoorPrx0
import Derived.Test.YthhpeeckiggpaaaDoorPrx1
import Derived.Test.YthhpeeckiggpaaaDoorPrx2
import Derived.Test.YthhpeeckiggpaaaDoorPrx5
import Derived.Test.YthhpeeckiggpaaaDoorPrx6
import Derived.Test.YthhpeeckiggpaaaDoorPrx7
import Derived.Test.YthhpeeckiggpaaaDoorExtV1
namespace Go.Proofs.YthhpeeckiggpaaaDoor.Pr
open Go.RowKit Go.Proofs.YthhpeeckiggpaaaDoorW.PrintWords Go.Proofs.YthhpeeckiggpaaaDoorW.PrintLast Go.Proofs.YthhpeeckiggpaaaDoorW.PrintMore
attribute [local go_sem] max2_int min2_int max_two min_two max_three min_three max_four min_four   -- for this text's walks alone
attribute [local go_sem high] Go.Proofs.YthhpeeckiggpaaaDoor.isSome_setCell
set_option maxRecDepth 100000
set_option linter.unusedVariables false
set_option linter.unusedSimpArgs false

attribute [local go_sem high] eqA26
/-! ### value_Binary: function 20 -/
def value_Binary.f (k : Nat) (a0 : Int) (a1_0 : Int) (a1_1 : Int) (a1_2 : ByteArray) (a1_3 : Bool) (a2_0 : Int) (a2_1 : Int) (a2_2 : ByteArray) (a2_3 : Bool) : Option (Int × Int × ByteArray × Bool × Int) := (value_refusal.f k a0 3 13 (([(⟨a1_0, a1_1, a1_2, a1_3⟩ : S26), (⟨a2_0, a2_1, a2_2, a2_3⟩ : S26)] : List (S26)))).bind fun t199 => (if t199 = 0 then (if a0 = 3 then ((value_number.f (wrap64 (a1_1 + a2_1))).bind fun bt200 => (some (bt200.1, bt200.2.1, bt200.2.2.1, bt200.2.2.2, 0))) else (if a0 = 4 then ((value_number.f (wrap64 (a1_1 - a2_1))).bind fun bt204 => (some (bt204.1, bt204.2.1, bt204.2.2.1, bt204.2.2.2, 0))) else (if a0 = 5 then ((value_number.f (wrap64 (a1_1 * a2_1))).bind fun bt208 => (some (bt208.1, bt208.2.1, bt208.2.2.1, bt208.2.2.2, 0))) else ((value_related.f k a0 a1_0 a1_1 a1_2 a1_3 a2_0 a2_1 a2_2 a2_3).bind fun t212 => ((value_truth.f t212).bind fun bt213 => (some (bt213.1, bt213.2.1, bt213.2.2.1, bt213.2.2.2, 0))))))) else (some (0, 0, (⟨#[]⟩ : ByteArray), false, t199)))
set_option maxRecDepth 100000 in
theorem value_Binary.mono : ∀ a0 a1 a2 a3 a4 a5 a6 a7 a8 k, LeO (value_Binary.f k a0 a1 a2 a3 a4 a5 a6 a7 a8) (value_Binary.f (k + 1) a0 a1 a2 a3 a4 a5 a6 a7 a8) := by
  intro a0 a1 a2 a3 a4 a5 a6 a7 a8 k
  unfold value_Binary.f
  repeat' first
      | (with_reducible exact value_refusal.mono _ _ _ _ _)
      | (with_reducible exact value_related.mono _ _ _ _ _ _ _ _ _ _)
      | (with_reducible exact LeO.refl _)
      | (with_reducible exact LeO.none _)
      | (with_reducible refine LeO.ite ?_ ?_)
      | (with_reducible refine LeO.bind ?_ (fun _ => ?_))
      | exact value_refusal.mono _ _ _ _ _
      | exact value_related.mono _ _ _ _ _ _ _ _ _ _
      | exact LeO.none _
      | refine LeO.ite ?_ ?_
      | refine LeO.bind ?_ (fun _ => ?_)
set_option maxHeartbeats 8000000 in
set_option maxRecDepth 100000 in
theorem value_Binary.calls (k : Nat) (a0 : Int) (a1_0 : Int) (a1_1 : Int) (a1_2 : ByteArray) (a1_3 : Bool) (a2_0 : Int) (a2_1 : Int) (a2_2 : ByteArray) (a2_3 : Bool) (r1 : Int) (r2 : Int) (r3 : ByteArray) (r4 : Bool) (r5 : Int) (w : World) (HL_LG0 : Aside0 (LG0 w)) (h : value_Binary.f k a0 a1_0 a1_1 a1_2 a1_3 a2_0 a2_1 a2_2 a2_3 = some (r1, r2, r3, r4, r5)) :
    Calls Tryd.prog 20 #[.int .i64 a0, .agg #[.int .i64 a1_0, .int .i64 a1_1, .string a1_2, .bool a1_3], .agg #[.int .i64 a2_0, .int .i64 a2_1, .string a2_2, .bool a2_3]] w fun e w' => e = .returned (.tuple #[.agg #[.int .i64 r1, .int .i64 r2, .string r3, .bool r4], .int .i64 r5]) ∧ Below w.heap.size w w' := by
  have hu26 := Tryd.underlying26
  have HB := Aside0.mk (Below.refl w.heap.size w)
  have H : ((value_refusal.f k a0 3 13 (([(⟨a1_0, a1_1, a1_2, a1_3⟩ : S26), (⟨a2_0, a2_1, a2_2, a2_3⟩ : S26)] : List (S26)))).bind fun t199 => (if t199 = 0 then (if a0 = 3 then ((value_number.f (wrap64 (a1_1 + a2_1))).bind fun bt200 => (some (bt200.1, bt200.2.1, bt200.2.2.1, bt200.2.2.2, 0))) else (if a0 = 4 then ((value_number.f (wrap64 (a1_1 - a2_1))).bind fun bt204 => (some (bt204.1, bt204.2.1, bt204.2.2.1, bt204.2.2.2, 0))) else (if a0 = 5 then ((value_number.f (wrap64 (a1_1 * a2_1))).bind fun bt208 => (some (bt208.1, bt208.2.1, bt208.2.2.1, bt208.2.2.2, 0))) else ((value_related.f k a0 a1_0 a1_1 a1_2 a1_3 a2_0 a2_1 a2_2 a2_3).bind fun t212 => ((value_truth.f t212).bind fun bt213 => (some (bt213.1, bt213.2.1, bt213.2.2.1, bt213.2.2.2, 0))))))) else (some (0, 0, (⟨#[]⟩ : ByteArray), false, t199)))) = some (r1, r2, r3, r4, r5) := h
  clear h
  obtain ⟨y196, hy196⟩ : ∃ y_ : List (S26), y_ = (([(⟨a1_0, a1_1, a1_2, a1_3⟩ : S26), (⟨a2_0, a2_1, a2_2, a2_3⟩ : S26)] : List (S26))) := ⟨_, rfl⟩
  replace H : ((value_refusal.f k a0 3 13 y196).bind fun t199 => (if t199 = 0 then (if a0 = 3 then ((value_number.f (wrap64 (a1_1 + a2_1))).bind fun bt200 => (some (bt200.1, bt200.2.1, bt200.2.2.1, bt200.2.2.2, 0))) else (if a0 = 4 then ((value_number.f (wrap64 (a1_1 - a2_1))).bind fun bt204 => (some (bt204.1, bt204.2.1, bt204.2.2.1, bt204.2.2.2, 0))) else (if a0 = 5 then ((value_number.f (wrap64 (a1_1 * a2_1))).bind fun bt208 => (some (bt208.1, bt208.2.1, bt208.2.2.1, bt208.2.2.2, 0))) else ((value_related.f k a0 a1_0 a1_1 a1_2 a1_3 a2_0 a2_1 a2_2 a2_3).bind fun t212 => ((value_truth.f t212).bind fun bt213 => (some (bt213.1, bt213.2.1, bt213.2.2.1, bt213.2.2.2, 0))))))) else (some (0, 0, (⟨#[]⟩ : ByteArray), false, t199)))) = some (r1, r2, r3, r4, r5) := by first | (rw [hy196]; with_reducible exact H) | (have H2_ := (Option.bind_some _ _).symm.trans H; rw [hy196]; with_reducible exact H2_) | (have H2_ := (Option.bind_some _ _).symm.trans H; with_reducible exact H2_) | with_reducible exact H | (rw [hy196]; exact H) | exact H
  have Ny196 := Aside0.mk hy196
  clear hy196
  replace H := Option.bind_eq_some_iff.mp H
  obtain ⟨t199, A40, H⟩ := H
  replace H : (if t199 = 0 then (if a0 = 3 then ((value_number.f (wrap64 (a1_1 + a2_1))).bind fun bt200 => (some (bt200.1, bt200.2.1, bt200.2.2.1, bt200.2.2.2, 0))) else (if a0 = 4 then ((value_number.f (wrap64 (a1_1 - a2_1))).bind fun bt204 => (some (bt204.1, bt204.2.1, bt204.2.2.1, bt204.2.2.2, 0))) else (if a0 = 5 then ((value_number.f (wrap64 (a1_1 * a2_1))).bind fun bt208 => (some (bt208.1, bt208.2.1, bt208.2.2.1, bt208.2.2.2, 0))) else ((value_related.f k a0 a1_0 a1_1 a1_2 a1_3 a2_0 a2_1 a2_2 a2_3).bind fun t212 => ((value_truth.f t212).bind fun bt213 => (some (bt213.1, bt213.2.1, bt213.2.2.1, bt213.2.2.2, 0))))))) else (some (0, 0, (⟨#[]⟩ : ByteArray), false, t199))) = some (r1, r2, r3, r4, r5) := H
  have A4 := Aside0.mk A40
  clear A40
  by_cases c5 : t199 = 0
  · rw [if_pos c5] at H
    have c5b0 : (t199 == 0) = true := beq_iff_eq.mpr c5
    have c5b1 : (t199 != 0) = false := bne_eq_false_iff_eq.mpr c5
    clear c5
    by_cases c6 : a0 = 3
    · rw [if_pos c6] at H
      have c6b0 : (a0 == 3) = true := beq_iff_eq.mpr c6
      have c6b1 : (a0 != 3) = false := bne_eq_false_iff_eq.mpr c6
      clear c6
      replace H := Option.bind_eq_some_iff.mp H
      obtain ⟨⟨t200, t201, t202, t203⟩, A70, H⟩ := H
      replace H : (some (t200, t201, t202, t203, 0)) = some (r1, r2, r3, r4, r5) := H
      have A7 := Aside0.mk A70
      clear A70
      simp only [Option.some.injEq, Prod.mk.injEq] at H
      obtain ⟨rfl, rfl, rfl, rfl, rfl⟩ := H
      go_enter Tryd.func20, Tryd.ntmps20
      go_wp2_with (first | ((with_reducible refine gate_dst (N := 4) rfl ?_); refine box_event ?hg (N := 4) ?hd (cs := #[.int .i64 a1_0, .int .i64 a1_1, .string a1_2, .bool a1_3]) (t := 26) ?hr ?_; (case hd => rfl); (case hg => rfl); (case hr => first | (go_simp; done) | (go_simp; rfl)); intro gb193 hg w8 hbox hb; have BK193 := Aside0.mk hbox; have GW193 := geA hg HB; have GE193 := geA hg HB; replace HB := bsA HB hb; clear hb hbox hg) | ((with_reducible refine gate_dst (N := 5) rfl ?_); refine box_event ?hg (N := 5) ?hd (cs := #[.int .i64 a2_0, .int .i64 a2_1, .string a2_2, .bool a2_3]) (t := 26) ?hr ?_; (case hd => rfl); (case hg => rfl); (case hr => first | (go_simp; done) | (go_simp; rfl)); intro gb194 hg w9 hbox hb; have BK194 := Aside0.mk hbox; have GW194 := geA hg HB; have GE194 := geA hg HB; have NB193_194 := neA hg BK193; have NB194_193 := neB hg BK193; replace BK193 := bbA BK193 hb; replace HB := bsA HB hb; clear hb hbox hg) | ((with_reducible refine gate_dst (N := 6) rfl ?_); refine box_event ?hg (N := 6) ?hd (cs := #[.int .i64 0, .int .i64 0, .string (⟨#[]⟩ : ByteArray), .bool false]) (t := 26) ?hr ?_; (case hd => rfl); (case hg => rfl); (case hr => first | (go_simp; done) | (go_simp; rfl)); intro gb195 hg w10 hbox hb; have BK195 := Aside0.mk hbox; have GW195 := geA hg HB; have GE195 := geA hg HB; have NB193_195 := neA hg BK193; have NB195_193 := neB hg BK193; have NB194_195 := neA hg BK194; have NB195_194 := neB hg BK194; replace BK193 := bbA BK193 hb; replace BK194 := bbA BK194 hb; replace HB := bsA HB hb; clear hb hbox hg; have hnb11 := NB193_194.out; have hnc11 := NB194_193.out; have hnb12 := NB193_195.out; have hnc12 := NB195_193.out; have hcz13_0 : w10.cell? ⟨gb193, 0, none⟩ = some (.int .i64 a1_0) := (blk_cell BK193.out 0).trans rfl; have hcz13_1 : w10.cell? ⟨gb193, 1, none⟩ = some (.int .i64 a1_1) := (blk_cell BK193.out 1).trans rfl; have hcz13_2 : w10.cell? ⟨gb193, 2, none⟩ = some (.string a1_2) := (blk_cell BK193.out 2).trans rfl; have hcz13_3 : w10.cell? ⟨gb193, 3, none⟩ = some (.bool a1_3) := (blk_cell BK193.out 3).trans rfl; have hfz13_0 := blk_frozen BK193.out 0; have hfz13_1 := blk_frozen BK193.out 1; have hfz13_2 := blk_frozen BK193.out 2; have hfz13_3 := blk_frozen BK193.out 3; have hnb14 := NB194_195.out; have hnc14 := NB195_194.out; have hcz15_0 : w10.cell? ⟨gb194, 0, none⟩ = some (.int .i64 a2_0) := (blk_cell BK194.out 0).trans rfl; have hcz15_1 : w10.cell? ⟨gb194, 1, none⟩ = some (.int .i64 a2_1) := (blk_cell BK194.out 1).trans rfl; have hcz15_2 : w10.cell? ⟨gb194, 2, none⟩ = some (.string a2_2) := (blk_cell BK194.out 2).trans rfl; have hcz15_3 : w10.cell? ⟨gb194, 3, none⟩ = some (.bool a2_3) := (blk_cell BK194.out 3).trans rfl; have hfz15_0 := blk_frozen BK194.out 0; have hfz15_1 := blk_frozen BK194.out 1; have hfz15_2 := blk_frozen BK194.out 2; have hfz15_3 := blk_frozen BK194.out 3) | ((with_reducible refine gate_dst (N := 12) rfl ?_); refine Kd.R_lit k26 _ 26 ?hg (N := 12) ?hd (xs := ([(⟨a1_0, a1_1, a1_2, a1_3⟩ : S26), (⟨a2_0, a2_1, a2_2, a2_3⟩ : S26)] : List (S26))) (inner := [.int .i64 a1_0, .int .i64 a1_1, .string a1_2, .bool a1_3, .int .i64 a2_0, .int .i64 a2_1, .string a2_2, .bool a2_3]) (ok := fun _ => True) (okp := fun _ => True) ?hr ?hp (fun _ hk => hk) trivial (Below.refl _ _) (Nat.le_refl _) (by simp) ?_; (case hd => rfl); (case hg => rfl); (case hr => first | (go_simp; done) | (go_simp; rfl)); (case hp => exact (Reps.c4 (show Kd.M k26 _ _ _ (⟨a1_0, a1_1, a1_2, a1_3⟩ : S26) [.int .i64 a1_0, .int .i64 a1_1, .string a1_2, .bool a1_3] from (k26_mkM _ _ _ (⟨a1_0, a1_1, a1_2, a1_3⟩ : S26) )) (Reps.c4 (show Kd.M k26 _ _ _ (⟨a2_0, a2_1, a2_2, a2_3⟩ : S26) [.int .i64 a2_0, .int .i64 a2_1, .string a2_2, .bool a2_3] from (k26_mkM _ _ _ (⟨a2_0, a2_1, a2_2, a2_3⟩ : S26) )) (Reps.none _ _)))); intro v197 w16 ho17 hb hg_ hnew_; clear hg_ hnew_; (first | rw [← Ny196.out] at ho17 | (simp only [Int.reduceToNat] at ho17; rw [← Ny196.out] at ho17)); have HO198 := Aside0.mk (Kd.R_lower (Kd.R_newB (Kd.R_newB (Kd.R_newB ho17 (g := gb193) (o := .cells #[.int .i64 a1_0, .int .i64 a1_1, .string a1_2, .bool a1_3] 26 (0, 0)) (bkT BK193.out)) (g := gb194) (o := .cells #[.int .i64 a2_0, .int .i64 a2_1, .string a2_2, .bool a2_3] 26 (0, 0)) (bkT BK194.out)) (g := gb195) (o := .cells #[.int .i64 0, .int .i64 0, .string (⟨#[]⟩ : ByteArray), .bool false] 26 (0, 0)) (bkT BK195.out)) (below_size (hbT HB.out))); replace BK193 := bbA BK193 hb; replace BK194 := bbA BK194 hb; replace BK195 := bbA BK195 hb; replace HB := bsA HB hb; clear hb ho17; obtain ⟨Ao18, co18, eo18⟩ := Kd.R_slice HO198.out; subst eo18) | ((with_reducible refine gate_callee (f := 45) rfl ?_); refine goesT (some 13) Tryd.func45 #[.int .i64 a0, .int .i64 3, .int .i64 13, .slice Ao18 y196.length co18] ?_; (with_reducible refine (value_refusal.calls k a0 3 13 _ _ y196 t199 _ ?side1 ?side2 ?side3 A4.out).mono ?_); (case side1 => repeat (first | exact (Kd.R_reads' HO198.out).2.2 | (with_reducible refine Kd.C_alloc ?_ _) | (with_reducible refine Kd.C_drewN ?_ _) | (with_reducible refine Kd.C_drew ?_))); (case side2 => exact (Kd.R_reads' HO198.out).2.1); (case side3 => first | (with_reducible exact HL_LG0) | exact ⟨LG0.below HL_LG0.out (hbT HB.out)⟩); rintro e w19 ⟨rfl, hb⟩; refine ⟨_, rfl, ?_⟩; replace HO198 := Aside0.mk (Kd.R_below (by (with_reducible repeat (first | apply Kd.R_alloc | apply Kd.R_drewN | apply Kd.R_drew)); exact HO198.out) hb); replace BK193 := bbA BK193 hb; replace BK194 := bbA BK194 hb; replace BK195 := bbA BK195 hb; replace HB := bsA HB hb; (try clear hb); (try clear hb2); (try clear hk); (try clear hi); have hcz20_0 : w19.cell? ⟨gb193, 0, none⟩ = some (.int .i64 a1_0) := (blk_cell BK193.out 0).trans rfl; have hcz20_1 : w19.cell? ⟨gb193, 1, none⟩ = some (.int .i64 a1_1) := (blk_cell BK193.out 1).trans rfl; have hcz20_2 : w19.cell? ⟨gb193, 2, none⟩ = some (.string a1_2) := (blk_cell BK193.out 2).trans rfl; have hcz20_3 : w19.cell? ⟨gb193, 3, none⟩ = some (.bool a1_3) := (blk_cell BK193.out 3).trans rfl; have hfz20_0 := blk_frozen BK193.out 0; have hfz20_1 := blk_frozen BK193.out 1; have hfz20_2 := blk_frozen BK193.out 2; have hfz20_3 := blk_frozen BK193.out 3; have hcz21_0 : w19.cell? ⟨gb194, 0, none⟩ = some (.int .i64 a2_0) := (blk_cell BK194.out 0).trans rfl; have hcz21_1 : w19.cell? ⟨gb194, 1, none⟩ = some (.int .i64 a2_1) := (blk_cell BK194.out 1).trans rfl; have hcz21_2 : w19.cell? ⟨gb194, 2, none⟩ = some (.string a2_2) := (blk_cell BK194.out 2).trans rfl; have hcz21_3 : w19.cell? ⟨gb194, 3, none⟩ = some (.bool a2_3) := (blk_cell BK194.out 3).trans rfl; have hfz21_0 := blk_frozen BK194.out 0; have hfz21_1 := blk_frozen BK194.out 1; have hfz21_2 := blk_frozen BK194.out 2; have hfz21_3 := blk_frozen BK194.out 3) | ((with_reducible refine gate_callee (f := 26) rfl ?_); refine goesT (some 26) Tryd.func26 #[.int .i64 (wrap64 (a1_1 + a2_1))] ?_; (with_reducible refine (value_number.calls (wrap64 (a1_1 + a2_1)) t200 t201 t202 t203 _ A7.out).mono ?_); rintro e w22 ⟨rfl, hb⟩; refine ⟨_, rfl, ?_⟩; replace HO198 := Aside0.mk (Kd.R_below (by (with_reducible repeat (first | apply Kd.R_alloc | apply Kd.R_drewN | apply Kd.R_drew)); exact HO198.out) hb); replace BK193 := bbA BK193 hb; replace BK194 := bbA BK194 hb; replace BK195 := bbA BK195 hb; replace HB := bsA HB hb; (try clear hb); (try clear hb2); (try clear hk); (try clear hi); have hcz23_0 : w22.cell? ⟨gb195, 0, none⟩ = some (.int .i64 0) := (blk_cell BK195.out 0).trans rfl; have hcz23_1 : w22.cell? ⟨gb195, 1, none⟩ = some (.int .i64 0) := (blk_cell BK195.out 1).trans rfl; have hcz23_2 : w22.cell? ⟨gb195, 2, none⟩ = some (.string (⟨#[]⟩ : ByteArray)) := (blk_cell BK195.out 2).trans rfl; have hcz23_3 : w22.cell? ⟨gb195, 3, none⟩ = some (.bool false) := (blk_cell BK195.out 3).trans rfl; have hfz23_0 := blk_frozen BK195.out 0; have hfz23_1 := blk_frozen BK195.out 1; have hfz23_2 := blk_frozen BK195.out 2; have hfz23_3 := blk_frozen BK195.out 3))
      refine bodyPost_ret (results_ct rfl _ _ gb195 26 #[.int .i64 t200, .int .i64 t201, .string t202, .bool t203] (0, 0) _ rfl (by (with_reducible repeat (first | refine blk_drewN ?_ _ | refine blk_drew ?_ | refine blk_alloc ?_ _)); refine blk_put (cs := #[.int .i64 t200, .int .i64 t201, .string t202, .bool false]) ?_ 3 _ rfl; (with_reducible repeat (first | refine blk_drewN ?_ _ | refine blk_drew ?_ | refine blk_alloc ?_ _)); refine blk_put (cs := #[.int .i64 t200, .int .i64 t201, .string (⟨#[]⟩ : ByteArray), .bool false]) ?_ 2 _ rfl; (with_reducible repeat (first | refine blk_drewN ?_ _ | refine blk_drew ?_ | refine blk_alloc ?_ _)); refine blk_put (cs := #[.int .i64 t200, .int .i64 0, .string (⟨#[]⟩ : ByteArray), .bool false]) ?_ 1 _ rfl; (with_reducible repeat (first | refine blk_drewN ?_ _ | refine blk_drew ?_ | refine blk_alloc ?_ _)); refine blk_put (cs := #[.int .i64 0, .int .i64 0, .string (⟨#[]⟩ : ByteArray), .bool false]) ?_ 0 _ rfl; (with_reducible repeat (first | refine blk_drewN ?_ _ | refine blk_drew ?_ | refine blk_alloc ?_ _)); exact BK195.out) Tryd.underlying26 rfl (by kernel_rfl)) rfl ?_
      exact ⟨by first | rfl | (simp [errW_none, errW_some] <;> rfl) | (simp [*, errW_none, errW_some] <;> rfl), hbT HB.out⟩
    · rw [if_neg c6] at H
      have c6b0 : (a0 == 3) = false := beq_eq_false_iff_ne.mpr c6
      have c6b1 : (a0 != 3) = true := bne_iff_ne.mpr c6
      by_cases c24 : a0 = 4
      · rw [if_pos c24] at H
        have c24b0 : (a0 == 4) = true := beq_iff_eq.mpr c24
        have c24b1 : (a0 != 4) = false := bne_eq_false_iff_eq.mpr c24
        clear c24
        replace H := Option.bind_eq_some_iff.mp H
        obtain ⟨⟨t204, t205, t206, t207⟩, A250, H⟩ := H
        replace H : (some (t204, t205, t206, t207, 0)) = some (r1, r2, r3, r4, r5) := H
        have A25 := Aside0.mk A250
        clear A250
        simp only [Option.some.injEq, Prod.mk.injEq] at H
        obtain ⟨rfl, rfl, rfl, rfl, rfl⟩ := H
        go_enter Tryd.func20, Tryd.ntmps20
        go_wp2_with (first | ((with_reducible refine gate_dst (N := 4) rfl ?_); refine box_event ?hg (N := 4) ?hd (cs := #[.int .i64 a1_0, .int .i64 a1_1, .string a1_2, .bool a1_3]) (t := 26) ?hr ?_; (case hd => rfl); (case hg => rfl); (case hr => first | (go_simp; done) | (go_simp; rfl)); intro gb193 hg w26 hbox hb; have BK193 := Aside0.mk hbox; have GW193 := geA hg HB; have GE193 := geA hg HB; replace HB := bsA HB hb; clear hb hbox hg) | ((with_reducible refine gate_dst (N := 5) rfl ?_); refine box_event ?hg (N := 5) ?hd (cs := #[.int .i64 a2_0, .int .i64 a2_1, .string a2_2, .bool a2_3]) (t := 26) ?hr ?_; (case hd => rfl); (case hg => rfl); (case hr => first | (go_simp; done) | (go_simp; rfl)); intro gb194 hg w27 hbox hb; have BK194 := Aside0.mk hbox; have GW194 := geA hg HB; have GE194 := geA hg HB; have NB193_194 := neA hg BK193; have NB194_193 := neB hg BK193; replace BK193 := bbA BK193 hb; replace HB := bsA HB hb; clear hb hbox hg) | ((with_reducible refine gate_dst (N := 6) rfl ?_); refine box_event ?hg (N := 6) ?hd (cs := #[.int .i64 0, .int .i64 0, .string (⟨#[]⟩ : ByteArray), .bool false]) (t := 26) ?hr ?_; (case hd => rfl); (case hg => rfl); (case hr => first | (go_simp; done) | (go_simp; rfl)); intro gb195 hg w28 hbox hb; have BK195 := Aside0.mk hbox; have GW195 := geA hg HB; have GE195 := geA hg HB; have NB193_195 := neA hg BK193; have NB195_193 := neB hg BK193; have NB194_195 := neA hg BK194; have NB195_194 := neB hg BK194; replace BK193 := bbA BK193 hb; replace BK194 := bbA BK194 hb; replace HB := bsA HB hb; clear hb hbox hg; have hnb29 := NB193_194.out; have hnc29 := NB194_193.out; have hnb30 := NB193_195.out; have hnc30 := NB195_193.out; have hcz31_0 : w28.cell? ⟨gb193, 0, none⟩ = some (.int .i64 a1_0) := (blk_cell BK193.out 0).trans rfl; have hcz31_1 : w28.cell? ⟨gb193, 1, none⟩ = some (.int .i64 a1_1) := (blk_cell BK193.out 1).trans rfl; have hcz31_2 : w28.cell? ⟨gb193, 2, none⟩ = some (.string a1_2) := (blk_cell BK193.out 2).trans rfl; have hcz31_3 : w28.cell? ⟨gb193, 3, none⟩ = some (.bool a1_3) := (blk_cell BK193.out 3).trans rfl; have hfz31_0 := blk_frozen BK193.out 0; have hfz31_1 := blk_frozen BK193.out 1; have hfz31_2 := blk_frozen BK193.out 2; have hfz31_3 := blk_frozen BK193.out 3; have hnb32 := NB194_195.out; have hnc32 := NB195_194.out; have hcz33_0 : w28.cell? ⟨gb194, 0, none⟩ = some (.int .i64 a2_0) := (blk_cell BK194.out 0).trans rfl; have hcz33_1 : w28.cell? ⟨gb194, 1, none⟩ = some (.int .i64 a2_1) := (blk_cell BK194.out 1).trans rfl; have hcz33_2 : w28.cell? ⟨gb194, 2, none⟩ = some (.string a2_2) := (blk_cell BK194.out 2).trans rfl; have hcz33_3 : w28.cell? ⟨gb194, 3, none⟩ = some (.bool a2_3) := (blk_cell BK194.out 3).trans rfl; have hfz33_0 := blk_frozen BK194.out 0; have hfz33_1 := blk_frozen BK194.out 1; have hfz33_2 := blk_frozen BK194.out 2; have hfz33_3 := blk_frozen BK194.out 3) | ((with_reducible refine gate_dst (N := 12) rfl ?_); refine Kd.R_lit k26 _ 26 ?hg (N := 12) ?hd (xs := ([(⟨a1_0, a1_1, a1_2, a1_3⟩ : S26), (⟨a2_0, a2_1, a2_2, a2_3⟩ : S26)] : List (S26))) (inner := [.int .i64 a1_0, .int .i64 a1_1, .string a1_2, .bool a1_3, .int .i64 a2_0, .int .i64 a2_1, .string a2_2, .bool a2_3]) (ok := fun _ => True) (okp := fun _ => True) ?hr ?hp (fun _ hk => hk) trivial (Below.refl _ _) (Nat.le_refl _) (by simp) ?_; (case hd => rfl); (case hg => rfl); (case hr => first | (go_simp; done) | (go_simp; rfl)); (case hp => exact (Reps.c4 (show Kd.M k26 _ _ _ (⟨a1_0, a1_1, a1_2, a1_3⟩ : S26) [.int .i64 a1_0, .int .i64 a1_1, .string a1_2, .bool a1_3] from (k26_mkM _ _ _ (⟨a1_0, a1_1, a1_2, a1_3⟩ : S26) )) (Reps.c4 (show Kd.M k26 _ _ _ (⟨a2_0, a2_1, a2_2, a2_3⟩ : S26) [.int .i64 a2_0, .int .i64 a2_1, .string a2_2, .bool a2_3] from (k26_mkM _ _ _ (⟨a2_0, a2_1, a2_2, a2_3⟩ : S26) )) (Reps.none _ _)))); intro v197 w34 ho35 hb hg_ hnew_; clear hg_ hnew_; (first | rw [← Ny196.out] at ho35 | (simp only [Int.reduceToNat] at ho35; rw [← Ny196.out] at ho35)); have HO198 := Aside0.mk (Kd.R_lower (Kd.R_newB (Kd.R_newB (Kd.R_newB ho35 (g := gb193) (o := .cells #[.int .i64 a1_0, .int .i64 a1_1, .string a1_2, .bool a1_3] 26 (0, 0)) (bkT BK193.out)) (g := gb194) (o := .cells #[.int .i64 a2_0, .int .i64 a2_1, .string a2_2, .bool a2_3] 26 (0, 0)) (bkT BK194.out)) (g := gb195) (o := .cells #[.int .i64 0, .int .i64 0, .string (⟨#[]⟩ : ByteArray), .bool false] 26 (0, 0)) (bkT BK195.out)) (below_size (hbT HB.out))); replace BK193 := bbA BK193 hb; replace BK194 := bbA BK194 hb; replace BK195 := bbA BK195 hb; replace HB := bsA HB hb; clear hb ho35; obtain ⟨Ao36, co36, eo36⟩ := Kd.R_slice HO198.out; subst eo36) | ((with_reducible refine gate_callee (f := 45) rfl ?_); refine goesT (some 13) Tryd.func45 #[.int .i64 a0, .int .i64 3, .int .i64 13, .slice Ao36 y196.length co36] ?_; (with_reducible refine (value_refusal.calls k a0 3 13 _ _ y196 t199 _ ?side1 ?side2 ?side3 A4.out).mono ?_); (case side1 => repeat (first | exact (Kd.R_reads' HO198.out).2.2 | (with_reducible refine Kd.C_alloc ?_ _) | (with_reducible refine Kd.C_drewN ?_ _) | (with_reducible refine Kd.C_drew ?_))); (case side2 => exact (Kd.R_reads' HO198.out).2.1); (case side3 => first | (with_reducible exact HL_LG0) | exact ⟨LG0.below HL_LG0.out (hbT HB.out)⟩); rintro e w37 ⟨rfl, hb⟩; refine ⟨_, rfl, ?_⟩; replace HO198 := Aside0.mk (Kd.R_below (by (with_reducible repeat (first | apply Kd.R_alloc | apply Kd.R_drewN | apply Kd.R_drew)); exact HO198.out) hb); replace BK193 := bbA BK193 hb; replace BK194 := bbA BK194 hb; replace BK195 := bbA BK195 hb; replace HB := bsA HB hb; (try clear hb); (try clear hb2); (try clear hk); (try clear hi); have hcz38_0 : w37.cell? ⟨gb193, 0, none⟩ = some (.int .i64 a1_0) := (blk_cell BK193.out 0).trans rfl; have hcz38_1 : w37.cell? ⟨gb193, 1, none⟩ = some (.int .i64 a1_1) := (blk_cell BK193.out 1).trans rfl; have hcz38_2 : w37.cell? ⟨gb193, 2, none⟩ = some (.string a1_2) := (blk_cell BK193.out 2).trans rfl; have hcz38_3 : w37.cell? ⟨gb193, 3, none⟩ = some (.bool a1_3) := (blk_cell BK193.out 3).trans rfl; have hfz38_0 := blk_frozen BK193.out 0; have hfz38_1 := blk_frozen BK193.out 1; have hfz38_2 := blk_frozen BK193.out 2; have hfz38_3 := blk_frozen BK193.out 3; have hcz39_0 : w37.cell? ⟨gb194, 0, none⟩ = some (.int .i64 a2_0) := (blk_cell BK194.out 0).trans rfl; have hcz39_1 : w37.cell? ⟨gb194, 1, none⟩ = some (.int .i64 a2_1) := (blk_cell BK194.out 1).trans rfl; have hcz39_2 : w37.cell? ⟨gb194, 2, none⟩ = some (.string a2_2) := (blk_cell BK194.out 2).trans rfl; have hcz39_3 : w37.cell? ⟨gb194, 3, none⟩ = some (.bool a2_3) := (blk_cell BK194.out 3).trans rfl; have hfz39_0 := blk_frozen BK194.out 0; have hfz39_1 := blk_frozen BK194.out 1; have hfz39_2 := blk_frozen BK194.out 2; have hfz39_3 := blk_frozen BK194.out 3) | ((with_reducible refine gate_callee (f := 26) rfl ?_); refine goesT (some 34) Tryd.func26 #[.int .i64 (wrap64 (a1_1 - a2_1))] ?_; (with_reducible refine (value_number.calls (wrap64 (a1_1 - a2_1)) t204 t205 t206 t207 _ A25.out).mono ?_); rintro e w40 ⟨rfl, hb⟩; refine ⟨_, rfl, ?_⟩; replace HO198 := Aside0.mk (Kd.R_below (by (with_reducible repeat (first | apply Kd.R_alloc | apply Kd.R_drewN | apply Kd.R_drew)); exact HO198.out) hb); replace BK193 := bbA BK193 hb; replace BK194 := bbA BK194 hb; replace BK195 := bbA BK195 hb; replace HB := bsA HB hb; (try clear hb); (try clear hb2); (try clear hk); (try clear hi); have hcz41_0 : w40.cell? ⟨gb195, 0, none⟩ = some (.int .i64 0) := (blk_cell BK195.out 0).trans rfl; have hcz41_1 : w40.cell? ⟨gb195, 1, none⟩ = some (.int .i64 0) := (blk_cell BK195.out 1).trans rfl; have hcz41_2 : w40.cell? ⟨gb195, 2, none⟩ = some (.string (⟨#[]⟩ : ByteArray)) := (blk_cell BK195.out 2).trans rfl; have hcz41_3 : w40.cell? ⟨gb195, 3, none⟩ = some (.bool false) := (blk_cell BK195.out 3).trans rfl; have hfz41_0 := blk_frozen BK195.out 0; have hfz41_1 := blk_frozen BK195.out 1; have hfz41_2 := blk_frozen BK195.out 2; have hfz41_3 := blk_frozen BK195.out 3))
        refine bodyPost_ret (results_ct rfl _ _ gb195 26 #[.int .i64 t204, .int .i64 t205, .string t206, .bool t207] (0, 0) _ rfl (by (with_reducible repeat (first | refine blk_drewN ?_ _ | refine blk_drew ?_ | refine blk_alloc ?_ _)); refine blk_put (cs := #[.int .i64 t204, .int .i64 t205, .string t206, .bool false]) ?_ 3 _ rfl; (with_reducible repeat (first | refine blk_drewN ?_ _ | refine blk_drew ?_ | refine blk_alloc ?_ _)); refine blk_put (cs := #[.int .i64 t204, .int .i64 t205, .string (⟨#[]⟩ : ByteArray), .bool false]) ?_ 2 _ rfl; (with_reducible repeat (first | refine blk_drewN ?_ _ | refine blk_drew ?_ | refine blk_alloc ?_ _)); refine blk_put (cs := #[.int .i64 t204, .int .i64 0, .string (⟨#[]⟩ : ByteArray), .bool false]) ?_ 1 _ rfl; (with_reducible repeat (first | refine blk_drewN ?_ _ | refine blk_drew ?_ | refine blk_alloc ?_ _)); refine blk_put (cs := #[.int .i64 0, .int .i64 0, .string (⟨#[]⟩ : ByteArray), .bool false]) ?_ 0 _ rfl; (with_reducible repeat (first | refine blk_drewN ?_ _ | refine blk_drew ?_ | refine blk_alloc ?_ _)); exact BK195.out) Tryd.underlying26 rfl (by kernel_rfl)) rfl ?_
        exact ⟨by first | rfl | (simp [errW_none, errW_some] <;> rfl) | (simp [*, errW_none, errW_some] <;> rfl), hbT HB.out⟩
      · rw [if_neg c24] at H
        have c24b0 : (a0 == 4) = false := beq_eq_false_iff_ne.mpr c24
        have c24b1 : (a0 != 4) = true := bne_iff_ne.mpr c24
        by_cases c42 : a0 = 5
        · rw [if_pos c42] at H
          have c42b0 : (a0 == 5) = true := beq_iff_eq.mpr c42
          have c42b1 : (a0 != 5) = false := bne_eq_false_iff_eq.mpr c42
          clear c42
          replace H := Option.bind_eq_some_iff.mp H
          obtain ⟨⟨t208, t209, t210, t211⟩, A430, H⟩ := H
          replace H : (some (t208, t209, t210, t211, 0)) = some (r1, r2, r3, r4, r5) := H
          have A43 := Aside0.mk A430
          clear A430
          simp only [Option.some.injEq, Prod.mk.injEq] at H
          obtain ⟨rfl, rfl, rfl, rfl, rfl⟩ := H
          go_enter Tryd.func20, Tryd.ntmps20
          go_wp2_with (first | ((with_reducible refine gate_dst (N := 4) rfl ?_); refine box_event ?hg (N := 4) ?hd (cs := #[.int .i64 a1_0, .int .i64 a1_1, .string a1_2, .bool a1_3]) (t := 26) ?hr ?_; (case hd => rfl); (case hg => rfl); (case hr => first | (go_simp; done) | (go_simp; rfl)); intro gb193 hg w44 hbox hb; have BK193 := Aside0.mk hbox; have GW193 := geA hg HB; have GE193 := geA hg HB; replace HB := bsA HB hb; clear hb hbox hg) | ((with_reducible refine gate_dst (N := 5) rfl ?_); refine box_event ?hg (N := 5) ?hd (cs := #[.int .i64 a2_0, .int .i64 a2_1, .string a2_2, .bool a2_3]) (t := 26) ?hr ?_; (case hd => rfl); (case hg => rfl); (case hr => first | (go_simp; done) | (go_simp; rfl)); intro gb194 hg w45 hbox hb; have BK194 := Aside0.mk hbox; have GW194 := geA hg HB; have GE194 := geA hg HB; have NB193_194 := neA hg BK193; have NB194_193 := neB hg BK193; replace BK193 := bbA BK193 hb; replace HB := bsA HB hb; clear hb hbox hg) | ((with_reducible refine gate_dst (N := 6) rfl ?_); refine box_event ?hg (N := 6) ?hd (cs := #[.int .i64 0, .int .i64 0, .string (⟨#[]⟩ : ByteArray), .bool false]) (t := 26) ?hr ?_; (case hd => rfl); (case hg => rfl); (case hr => first | (go_simp; done) | (go_simp; rfl)); intro gb195 hg w46 hbox hb; have BK195 := Aside0.mk hbox; have GW195 := geA hg HB; have GE195 := geA hg HB; have NB193_195 := neA hg BK193; have NB195_193 := neB hg BK193; have NB194_195 := neA hg BK194; have NB195_194 := neB hg BK194; replace BK193 := bbA BK193 hb; replace BK194 := bbA BK194 hb; replace HB := bsA HB hb; clear hb hbox hg; have hnb47 := NB193_194.out; have hnc47 := NB194_193.out; have hnb48 := NB193_195.out; have hnc48 := NB195_193.out; have hcz49_0 : w46.cell? ⟨gb193, 0, none⟩ = some (.int .i64 a1_0) := (blk_cell BK193.out 0).trans rfl; have hcz49_1 : w46.cell? ⟨gb193, 1, none⟩ = some (.int .i64 a1_1) := (blk_cell BK193.out 1).trans rfl; have hcz49_2 : w46.cell? ⟨gb193, 2, none⟩ = some (.string a1_2) := (blk_cell BK193.out 2).trans rfl; have hcz49_3 : w46.cell? ⟨gb193, 3, none⟩ = some (.bool a1_3) := (blk_cell BK193.out 3).trans rfl; have hfz49_0 := blk_frozen BK193.out 0; have hfz49_1 := blk_frozen BK193.out 1; have hfz49_2 := blk_frozen BK193.out 2; have hfz49_3 := blk_frozen BK193.out 3; have hnb50 := NB194_195.out; have hnc50 := NB195_194.out; have hcz51_0 : w46.cell? ⟨gb194, 0, none⟩ = some (.int .i64 a2_0) := (blk_cell BK194.out 0).trans rfl; have hcz51_1 : w46.cell? ⟨gb194, 1, none⟩ = some (.int .i64 a2_1) := (blk_cell BK194.out 1).trans rfl; have hcz51_2 : w46.cell? ⟨gb194, 2, none⟩ = some (.string a2_2) := (blk_cell BK194.out 2).trans rfl; have hcz51_3 : w46.cell? ⟨gb194, 3, none⟩ = some (.bool a2_3) := (blk_cell BK194.out 3).trans rfl; have hfz51_0 := blk_frozen BK194.out 0; have hfz51_1 := blk_frozen BK194.out 1; have hfz51_2 := blk_frozen BK194.out 2; have hfz51_3 := blk_frozen BK194.out 3) | ((with_reducible refine gate_dst (N := 12) rfl ?_); refine Kd.R_lit k26 _ 26 ?hg (N := 12) ?hd (xs := ([(⟨a1_0, a1_1, a1_2, a1_3⟩ : S26), (⟨a2_0, a2_1, a2_2, a2_3⟩ : S26)] : List (S26))) (inner := [.int .i64 a1_0, .int .i64 a1_1, .string a1_2, .bool a1_3, .int .i64 a2_0, .int .i64 a2_1, .string a2_2, .bool a2_3]) (ok := fun _ => True) (okp := fun _ => True) ?hr ?hp (fun _ hk => hk) trivial (Below.refl _ _) (Nat.le_refl _) (by simp) ?_; (case hd => rfl); (case hg => rfl); (case hr => first | (go_simp; done) | (go_simp; rfl)); (case hp => exact (Reps.c4 (show Kd.M k26 _ _ _ (⟨a1_0, a1_1, a1_2, a1_3⟩ : S26) [.int .i64 a1_0, .int .i64 a1_1, .string a1_2, .bool a1_3] from (k26_mkM _ _ _ (⟨a1_0, a1_1, a1_2, a1_3⟩ : S26) )) (Reps.c4 (show Kd.M k26 _ _ _ (⟨a2_0, a2_1, a2_2, a2_3⟩ : S26) [.int .i64 a2_0, .int .i64 a2_1, .string a2_2, .bool a2_3] from (k26_mkM _ _ _ (⟨a2_0, a2_1, a2_2, a2_3⟩ : S26) )) (Reps.none _ _)))); intro v197 w52 ho53 hb hg_ hnew_; clear hg_ hnew_; (first | rw [← Ny196.out] at ho53 | (simp only [Int.reduceToNat] at ho53; rw [← Ny196.out] at ho53)); have HO198 := Aside0.mk (Kd.R_lower (Kd.R_newB (Kd.R_newB (Kd.R_newB ho53 (g := gb193) (o := .cells #[.int .i64 a1_0, .int .i64 a1_1, .string a1_2, .bool a1_3] 26 (0, 0)) (bkT BK193.out)) (g := gb194) (o := .cells #[.int .i64 a2_0, .int .i64 a2_1, .string a2_2, .bool a2_3] 26 (0, 0)) (bkT BK194.out)) (g := gb195) (o := .cells #[.int .i64 0, .int .i64 0, .string (⟨#[]⟩ : ByteArray), .bool false] 26 (0, 0)) (bkT BK195.out)) (below_size (hbT HB.out))); replace BK193 := bbA BK193 hb; replace BK194 := bbA BK194 hb; replace BK195 := bbA BK195 hb; replace HB := bsA HB hb; clear hb ho53; obtain ⟨Ao54, co54, eo54⟩ := Kd.R_slice HO198.out; subst eo54) | ((with_reducible refine gate_callee (f := 45) rfl ?_); refine goesT (some 13) Tryd.func45 #[.int .i64 a0, .int .i64 3, .int .i64 13, .slice Ao54 y196.length co54] ?_; (with_reducible refine (value_refusal.calls k a0 3 13 _ _ y196 t199 _ ?side1 ?side2 ?side3 A4.out).mono ?_); (case side1 => repeat (first | exact (Kd.R_reads' HO198.out).2.2 | (with_reducible refine Kd.C_alloc ?_ _) | (with_reducible refine Kd.C_drewN ?_ _) | (with_reducible refine Kd.C_drew ?_))); (case side2 => exact (Kd.R_reads' HO198.out).2.1); (case side3 => first | (with_reducible exact HL_LG0) | exact ⟨LG0.below HL_LG0.out (hbT HB.out)⟩); rintro e w55 ⟨rfl, hb⟩; refine ⟨_, rfl, ?_⟩; replace HO198 := Aside0.mk (Kd.R_below (by (with_reducible repeat (first | apply Kd.R_alloc | apply Kd.R_drewN | apply Kd.R_drew)); exact HO198.out) hb); replace BK193 := bbA BK193 hb; replace BK194 := bbA BK194 hb; replace BK195 := bbA BK195 hb; replace HB := bsA HB hb; (try clear hb); (try clear hb2); (try clear hk); (try clear hi); have hcz56_0 : w55.cell? ⟨gb193, 0, none⟩ = some (.int .i64 a1_0) := (blk_cell BK193.out 0).trans rfl; have hcz56_1 : w55.cell? ⟨gb193, 1, none⟩ = some (.int .i64 a1_1) := (blk_cell BK193.out 1).trans rfl; have hcz56_2 : w55.cell? ⟨gb193, 2, none⟩ = some (.string a1_2) := (blk_cell BK193.out 2).trans rfl; have hcz56_3 : w55.cell? ⟨gb193, 3, none⟩ = some (.bool a1_3) := (blk_cell BK193.out 3).trans rfl; have hfz56_0 := blk_frozen BK193.out 0; have hfz56_1 := blk_frozen BK193.out 1; have hfz56_2 := blk_frozen BK193.out 2; have hfz56_3 := blk_frozen BK193.out 3; have hcz57_0 : w55.cell? ⟨gb194, 0, none⟩ = some (.int .i64 a2_0) := (blk_cell BK194.out 0).trans rfl; have hcz57_1 : w55.cell? ⟨gb194, 1, none⟩ = some (.int .i64 a2_1) := (blk_cell BK194.out 1).trans rfl; have hcz57_2 : w55.cell? ⟨gb194, 2, none⟩ = some (.string a2_2) := (blk_cell BK194.out 2).trans rfl; have hcz57_3 : w55.cell? ⟨gb194, 3, none⟩ = some (.bool a2_3) := (blk_cell BK194.out 3).trans rfl; have hfz57_0 := blk_frozen BK194.out 0; have hfz57_1 := blk_frozen BK194.out 1; have hfz57_2 := blk_frozen BK194.out 2; have hfz57_3 := blk_frozen BK194.out 3) | ((with_reducible refine gate_callee (f := 26) rfl ?_); refine goesT (some 42) Tryd.func26 #[.int .i64 (wrap64 (a1_1 * a2_1))] ?_; (with_reducible refine (value_number.calls (wrap64 (a1_1 * a2_1)) t208 t209 t210 t211 _ A43.out).mono ?_); rintro e w58 ⟨rfl, hb⟩; refine ⟨_, rfl, ?_⟩; replace HO198 := Aside0.mk (Kd.R_below (by (with_reducible repeat (first | apply Kd.R_alloc | apply Kd.R_drewN | apply Kd.R_drew)); exact HO198.out) hb); replace BK193 := bbA BK193 hb; replace BK194 := bbA BK194 hb; replace BK195 := bbA BK195 hb; replace HB := bsA HB hb; (try clear hb); (try clear hb2); (try clear hk); (try clear hi); have hcz59_0 : w58.cell? ⟨gb195, 0, none⟩ = some (.int .i64 0) := (blk_cell BK195.out 0).trans rfl; have hcz59_1 : w58.cell? ⟨gb195, 1, none⟩ = some (.int .i64 0) := (blk_cell BK195.out 1).trans rfl; have hcz59_2 : w58.cell? ⟨gb195, 2, none⟩ = some (.string (⟨#[]⟩ : ByteArray)) := (blk_cell BK195.out 2).trans rfl; have hcz59_3 : w58.cell? ⟨gb195, 3, none⟩ = some (.bool false) := (blk_cell BK195.out 3).trans rfl; have hfz59_0 := blk_frozen BK195.out 0; have hfz59_1 := blk_frozen BK195.out 1; have hfz59_2 := blk_frozen BK195.out 2; have hfz59_3 := blk_frozen BK195.out 3))
          refine bodyPost_ret (results_ct rfl _ _ gb195 26 #[.int .i64 t208, .int .i64 t209, .string t210, .bool t211] (0, 0) _ rfl (by (with_reducible repeat (first | refine blk_drewN ?_ _ | refine blk_drew ?_ | refine blk_alloc ?_ _)); refine blk_put (cs := #[.int .i64 t208, .int .i64 t209, .string t210, .bool false]) ?_ 3 _ rfl; (with_reducible repeat (first | refine blk_drewN ?_ _ | refine blk_drew ?_ | refine blk_alloc ?_ _)); refine blk_put (cs := #[.int .i64 t208, .int .i64 t209, .string (⟨#[]⟩ : ByteArray), .bool false]) ?_ 2 _ rfl; (with_reducible repeat (first | refine blk_drewN ?_ _ | refine blk_drew ?_ | refine blk_alloc ?_ _)); refine blk_put (cs := #[.int .i64 t208, .int .i64 0, .string (⟨#[]⟩ : ByteArray), .bool false]) ?_ 1 _ rfl; (with_reducible repeat (first | refine blk_drewN ?_ _ | refine blk_drew ?_ | refine blk_alloc ?_ _)); refine blk_put (cs := #[.int .i64 0, .int .i64 0, .string (⟨#[]⟩ : ByteArray), .bool false]) ?_ 0 _ rfl; (with_reducible repeat (first | refine blk_drewN ?_ _ | refine blk_drew ?_ | refine blk_alloc ?_ _)); exact BK195.out) Tryd.underlying26 rfl (by kernel_rfl)) rfl ?_
          exact ⟨by first | rfl | (simp [errW_none, errW_some] <;> rfl) | (simp [*, errW_none, errW_some] <;> rfl), hbT HB.out⟩
        · rw [if_neg c42] at H
          have c42b0 : (a0 == 5) = false := beq_eq_false_iff_ne.mpr c42
          have c42b1 : (a0 != 5) = true := bne_iff_ne.mpr c42
          replace H := Option.bind_eq_some_iff.mp H
          obtain ⟨t212, A600, H⟩ := H
          replace H : ((value_truth.f t212).bind fun bt213 => (some (bt213.1, bt213.2.1, bt213.2.2.1, bt213.2.2.2, 0))) = some (r1, r2, r3, r4, r5) := H
          have A60 := Aside0.mk A600
          clear A600
          replace H := Option.bind_eq_some_iff.mp H
          obtain ⟨⟨t213, t214, t215, t216⟩, A610, H⟩ := H
          replace H : (some (t213, t214, t215, t216, 0)) = some (r1, r2, r3, r4, r5) := H
          have A61 := Aside0.mk A610
          clear A610
          simp only [Option.some.injEq, Prod.mk.injEq] at H
          obtain ⟨rfl, rfl, rfl, rfl, rfl⟩ := H
          go_enter Tryd.func20, Tryd.ntmps20
          go_wp2_with (first | ((with_reducible refine gate_dst (N := 4) rfl ?_); refine box_event ?hg (N := 4) ?hd (cs := #[.int .i64 a1_0, .int .i64 a1_1, .string a1_2, .bool a1_3]) (t := 26) ?hr ?_; (case hd => rfl); (case hg => rfl); (case hr => first | (go_simp; done) | (go_simp; rfl)); intro gb193 hg w62 hbox hb; have BK193 := Aside0.mk hbox; have GW193 := geA hg HB; have GE193 := geA hg HB; replace HB := bsA HB hb; clear hb hbox hg) | ((with_reducible refine gate_dst (N := 5) rfl ?_); refine box_event ?hg (N := 5) ?hd (cs := #[.int .i64 a2_0, .int .i64 a2_1, .string a2_2, .bool a2_3]) (t := 26) ?hr ?_; (case hd => rfl); (case hg => rfl); (case hr => first | (go_simp; done) | (go_simp; rfl)); intro gb194 hg w63 hbox hb; have BK194 := Aside0.mk hbox; have GW194 := geA hg HB; have GE194 := geA hg HB; have NB193_194 := neA hg BK193; have NB194_193 := neB hg BK193; replace BK193 := bbA BK193 hb; replace HB := bsA HB hb; clear hb hbox hg) | ((with_reducible refine gate_dst (N := 6) rfl ?_); refine box_event ?hg (N := 6) ?hd (cs := #[.int .i64 0, .int .i64 0, .string (⟨#[]⟩ : ByteArray), .bool false]) (t := 26) ?hr ?_; (case hd => rfl); (case hg => rfl); (case hr => first | (go_simp; done) | (go_simp; rfl)); intro gb195 hg w64 hbox hb; have BK195 := Aside0.mk hbox; have GW195 := geA hg HB; have GE195 := geA hg HB; have NB193_195 := neA hg BK193; have NB195_193 := neB hg BK193; have NB194_195 := neA hg BK194; have NB195_194 := neB hg BK194; replace BK193 := bbA BK193 hb; replace BK194 := bbA BK194 hb; replace HB := bsA HB hb; clear hb hbox hg; have hnb65 := NB193_194.out; have hnc65 := NB194_193.out; have hnb66 := NB193_195.out; have hnc66 := NB195_193.out; have hcz67_0 : w64.cell? ⟨gb193, 0, none⟩ = some (.int .i64 a1_0) := (blk_cell BK193.out 0).trans rfl; have hcz67_1 : w64.cell? ⟨gb193, 1, none⟩ = some (.int .i64 a1_1) := (blk_cell BK193.out 1).trans rfl; have hcz67_2 : w64.cell? ⟨gb193, 2, none⟩ = some (.string a1_2) := (blk_cell BK193.out 2).trans rfl; have hcz67_3 : w64.cell? ⟨gb193, 3, none⟩ = some (.bool a1_3) := (blk_cell BK193.out 3).trans rfl; have hfz67_0 := blk_frozen BK193.out 0; have hfz67_1 := blk_frozen BK193.out 1; have hfz67_2 := blk_frozen BK193.out 2; have hfz67_3 := blk_frozen BK193.out 3; have hnb68 := NB194_195.out; have hnc68 := NB195_194.out; have hcz69_0 : w64.cell? ⟨gb194, 0, none⟩ = some (.int .i64 a2_0) := (blk_cell BK194.out 0).trans rfl; have hcz69_1 : w64.cell? ⟨gb194, 1, none⟩ = some (.int .i64 a2_1) := (blk_cell BK194.out 1).trans rfl; have hcz69_2 : w64.cell? ⟨gb194, 2, none⟩ = some (.string a2_2) := (blk_cell BK194.out 2).trans rfl; have hcz69_3 : w64.cell? ⟨gb194, 3, none⟩ = some (.bool a2_3) := (blk_cell BK194.out 3).trans rfl; have hfz69_0 := blk_frozen BK194.out 0; have hfz69_1 := blk_frozen BK194.out 1; have hfz69_2 := blk_frozen BK194.out 2; have hfz69_3 := blk_frozen BK194.out 3) | ((with_reducible refine gate_dst (N := 12) rfl ?_); refine Kd.R_lit k26 _ 26 ?hg (N := 12) ?hd (xs := ([(⟨a1_0, a1_1, a1_2, a1_3⟩ : S26), (⟨a2_0, a2_1, a2_2, a2_3⟩ : S26)] : List (S26))) (inner := [.int .i64 a1_0, .int .i64 a1_1, .string a1_2, .bool a1_3, .int .i64 a2_0, .int .i64 a2_1, .string a2_2, .bool a2_3]) (ok := fun _ => True) (okp := fun _ => True) ?hr ?hp (fun _ hk => hk) trivial (Below.refl _ _) (Nat.le_refl _) (by simp) ?_; (case hd => rfl); (case hg => rfl); (case hr => first | (go_simp; done) | (go_simp; rfl)); (case hp => exact (Reps.c4 (show Kd.M k26 _ _ _ (⟨a1_0, a1_1, a1_2, a1_3⟩ : S26) [.int .i64 a1_0, .int .i64 a1_1, .string a1_2, .bool a1_3] from (k26_mkM _ _ _ (⟨a1_0, a1_1, a1_2, a1_3⟩ : S26) )) (Reps.c4 (show Kd.M k26 _ _ _ (⟨a2_0, a2_1, a2_2, a2_3⟩ : S26) [.int .i64 a2_0, .int .i64 a2_1, .string a2_2, .bool a2_3] from (k26_mkM _ _ _ (⟨a2_0, a2_1, a2_2, a2_3⟩ : S26) )) (Reps.none _ _)))); intro v197 w70 ho71 hb hg_ hnew_; clear hg_ hnew_; (first | rw [← Ny196.out] at ho71 | (simp only [Int.reduceToNat] at ho71; rw [← Ny196.out] at ho71)); have HO198 := Aside0.mk (Kd.R_lower (Kd.R_newB (Kd.R_newB (Kd.R_newB ho71 (g := gb193) (o := .cells #[.int .i64 a1_0, .int .i64 a1_1, .string a1_2, .bool a1_3] 26 (0, 0)) (bkT BK193.out)) (g := gb194) (o := .cells #[.int .i64 a2_0, .int .i64 a2_1, .string a2_2, .bool a2_3] 26 (0, 0)) (bkT BK194.out)) (g := gb195) (o := .cells #[.int .i64 0, .int .i64 0, .string (⟨#[]⟩ : ByteArray), .bool false] 26 (0, 0)) (bkT BK195.out)) (below_size (hbT HB.out))); replace BK193 := bbA BK193 hb; replace BK194 := bbA BK194 hb; replace BK195 := bbA BK195 hb; replace HB := bsA HB hb; clear hb ho71; obtain ⟨Ao72, co72, eo72⟩ := Kd.R_slice HO198.out; subst eo72) | ((with_reducible refine gate_callee (f := 45) rfl ?_); refine goesT (some 13) Tryd.func45 #[.int .i64 a0, .int .i64 3, .int .i64 13, .slice Ao72 y196.length co72] ?_; (with_reducible refine (value_refusal.calls k a0 3 13 _ _ y196 t199 _ ?side1 ?side2 ?side3 A4.out).mono ?_); (case side1 => repeat (first | exact (Kd.R_reads' HO198.out).2.2 | (with_reducible refine Kd.C_alloc ?_ _) | (with_reducible refine Kd.C_drewN ?_ _) | (with_reducible refine Kd.C_drew ?_))); (case side2 => exact (Kd.R_reads' HO198.out).2.1); (case side3 => first | (with_reducible exact HL_LG0) | exact ⟨LG0.below HL_LG0.out (hbT HB.out)⟩); rintro e w73 ⟨rfl, hb⟩; refine ⟨_, rfl, ?_⟩; replace HO198 := Aside0.mk (Kd.R_below (by (with_reducible repeat (first | apply Kd.R_alloc | apply Kd.R_drewN | apply Kd.R_drew)); exact HO198.out) hb); replace BK193 := bbA BK193 hb; replace BK194 := bbA BK194 hb; replace BK195 := bbA BK195 hb; replace HB := bsA HB hb; (try clear hb); (try clear hb2); (try clear hk); (try clear hi); have hcz74_0 : w73.cell? ⟨gb193, 0, none⟩ = some (.int .i64 a1_0) := (blk_cell BK193.out 0).trans rfl; have hcz74_1 : w73.cell? ⟨gb193, 1, none⟩ = some (.int .i64 a1_1) := (blk_cell BK193.out 1).trans rfl; have hcz74_2 : w73.cell? ⟨gb193, 2, none⟩ = some (.string a1_2) := (blk_cell BK193.out 2).trans rfl; have hcz74_3 : w73.cell? ⟨gb193, 3, none⟩ = some (.bool a1_3) := (blk_cell BK193.out 3).trans rfl; have hfz74_0 := blk_frozen BK193.out 0; have hfz74_1 := blk_frozen BK193.out 1; have hfz74_2 := blk_frozen BK193.out 2; have hfz74_3 := blk_frozen BK193.out 3; have hcz75_0 : w73.cell? ⟨gb194, 0, none⟩ = some (.int .i64 a2_0) := (blk_cell BK194.out 0).trans rfl; have hcz75_1 : w73.cell? ⟨gb194, 1, none⟩ = some (.int .i64 a2_1) := (blk_cell BK194.out 1).trans rfl; have hcz75_2 : w73.cell? ⟨gb194, 2, none⟩ = some (.string a2_2) := (blk_cell BK194.out 2).trans rfl; have hcz75_3 : w73.cell? ⟨gb194, 3, none⟩ = some (.bool a2_3) := (blk_cell BK194.out 3).trans rfl; have hfz75_0 := blk_frozen BK194.out 0; have hfz75_1 := blk_frozen BK194.out 1; have hfz75_2 := blk_frozen BK194.out 2; have hfz75_3 := blk_frozen BK194.out 3) | ((with_reducible refine gate_callee (f := 46) rfl ?_); refine goesT (some 46) Tryd.func46 #[.int .i64 a0, .agg #[.int .i64 a1_0, .int .i64 a1_1, .string a1_2, .bool a1_3], .agg #[.int .i64 a2_0, .int .i64 a2_1, .string a2_2, .bool a2_3]] ?_; (with_reducible refine (value_related.calls k a0 a1_0 a1_1 a1_2 a1_3 a2_0 a2_1 a2_2 a2_3 t212 _ A60.out).mono ?_); rintro e w76 ⟨rfl, hb⟩; refine ⟨_, rfl, ?_⟩; replace HO198 := Aside0.mk (Kd.R_below (by (with_reducible repeat (first | apply Kd.R_alloc | apply Kd.R_drewN | apply Kd.R_drew)); exact HO198.out) hb); replace BK193 := bbA BK193 hb; replace BK194 := bbA BK194 hb; replace BK195 := bbA BK195 hb; replace HB := bsA HB hb; (try clear hb); (try clear hb2); (try clear hk); (try clear hi)) | ((with_reducible refine gate_callee (f := 28) rfl ?_); refine goesT (some 47) Tryd.func28 #[.bool t212] ?_; (with_reducible refine (value_truth.calls t212 t213 t214 t215 t216 _ A61.out).mono ?_); rintro e w77 ⟨rfl, hb⟩; refine ⟨_, rfl, ?_⟩; replace HO198 := Aside0.mk (Kd.R_below (by (with_reducible repeat (first | apply Kd.R_alloc | apply Kd.R_drewN | apply Kd.R_drew)); exact HO198.out) hb); replace BK193 := bbA BK193 hb; replace BK194 := bbA BK194 hb; replace BK195 := bbA BK195 hb; replace HB := bsA HB hb; (try clear hb); (try clear hb2); (try clear hk); (try clear hi); have hcz78_0 : w77.cell? ⟨gb195, 0, none⟩ = some (.int .i64 0) := (blk_cell BK195.out 0).trans rfl; have hcz78_1 : w77.cell? ⟨gb195, 1, none⟩ = some (.int .i64 0) := (blk_cell BK195.out 1).trans rfl; have hcz78_2 : w77.cell? ⟨gb195, 2, none⟩ = some (.string (⟨#[]⟩ : ByteArray)) := (blk_cell BK195.out 2).trans rfl; have hcz78_3 : w77.cell? ⟨gb195, 3, none⟩ = some (.bool false) := (blk_cell BK195.out 3).trans rfl; have hfz78_0 := blk_frozen BK195.out 0; have hfz78_1 := blk_frozen BK195.out 1; have hfz78_2 := blk_frozen BK195.out 2; have hfz78_3 := blk_frozen BK195.out 3))
          refine bodyPost_ret (results_ct rfl _ _ gb195 26 #[.int .i64 t213, .int .i64 t214, .string t215, .bool t216] (0, 0) _ rfl (by (with_reducible repeat (first | refine blk_drewN ?_ _ | refine blk_drew ?_ | refine blk_alloc ?_ _)); refine blk_put (cs := #[.int .i64 t213, .int .i64 t214, .string t215, .bool false]) ?_ 3 _ rfl; (with_reducible repeat (first | refine blk_drewN ?_ _ | refine blk_drew ?_ | refine blk_alloc ?_ _)); refine blk_put (cs := #[.int .i64 t213, .int .i64 t214, .string (⟨#[]⟩ : ByteArray), .bool false]) ?_ 2 _ rfl; (with_reducible repeat (first | refine blk_drewN ?_ _ | refine blk_drew ?_ | refine blk_alloc ?_ _)); refine blk_put (cs := #[.int .i64 t213, .int .i64 0, .string (⟨#[]⟩ : ByteArray), .bool false]) ?_ 1 _ rfl; (with_reducible repeat (first | refine blk_drewN ?_ _ | refine blk_drew ?_ | refine blk_alloc ?_ _)); refine blk_put (cs := #[.int .i64 0, .int .i64 0, .string (⟨#[]⟩ : ByteArray), .bool false]) ?_ 0 _ rfl; (with_reducible repeat (first | refine blk_drewN ?_ _ | refine blk_drew ?_ | refine blk_alloc ?_ _)); exact BK195.out) Tryd.underlying26 rfl (by kernel_rfl)) rfl ?_
          exact ⟨by first | rfl | (simp [errW_none, errW_some] <;> rfl) | (simp [*, errW_none, errW_some] <;> rfl), hbT HB.out⟩
  · rw [if_neg c5] at H
    have c5b0 : (t199 == 0) = false := beq_eq_false_iff_ne.mpr c5
    have c5b1 : (t199 != 0) = true := bne_iff_ne.mpr c5
    simp only [Option.some.injEq, Prod.mk.injEq] at H
    obtain ⟨rfl, rfl, rfl, rfl, rfl⟩ := H
    go_enter Tryd.func20, Tryd.ntmps20
    go_wp2_with (first | ((with_reducible refine gate_dst (N := 4) rfl ?_); refine box_event ?hg (N := 4) ?hd (cs := #[.int .i64 a1_0, .int .i64 a1_1, .string a1_2, .bool a1_3]) (t := 26) ?hr ?_; (case hd => rfl); (case hg => rfl); (case hr => first | (go_simp; done) | (go_simp; rfl)); intro gb193 hg w79 hbox hb; have BK193 := Aside0.mk hbox; have GW193 := geA hg HB; have GE193 := geA hg HB; replace HB := bsA HB hb; clear hb hbox hg) | ((with_reducible refine gate_dst (N := 5) rfl ?_); refine box_event ?hg (N := 5) ?hd (cs := #[.int .i64 a2_0, .int .i64 a2_1, .string a2_2, .bool a2_3]) (t := 26) ?hr ?_; (case hd => rfl); (case hg => rfl); (case hr => first | (go_simp; done) | (go_simp; rfl)); intro gb194 hg w80 hbox hb; have BK194 := Aside0.mk hbox; have GW194 := geA hg HB; have GE194 := geA hg HB; have NB193_194 := neA hg BK193; have NB194_193 := neB hg BK193; replace BK193 := bbA BK193 hb; replace HB := bsA HB hb; clear hb hbox hg) | ((with_reducible refine gate_dst (N := 6) rfl ?_); refine box_event ?hg (N := 6) ?hd (cs := #[.int .i64 0, .int .i64 0, .string (⟨#[]⟩ : ByteArray), .bool false]) (t := 26) ?hr ?_; (case hd => rfl); (case hg => rfl); (case hr => first | (go_simp; done) | (go_simp; rfl)); intro gb195 hg w81 hbox hb; have BK195 := Aside0.mk hbox; have GW195 := geA hg HB; have GE195 := geA hg HB; have NB193_195 := neA hg BK193; have NB195_193 := neB hg BK193; have NB194_195 := neA hg BK194; have NB195_194 := neB hg BK194; replace BK193 := bbA BK193 hb; replace BK194 := bbA BK194 hb; replace HB := bsA HB hb; clear hb hbox hg; have hnb82 := NB193_194.out; have hnc82 := NB194_193.out; have hnb83 := NB193_195.out; have hnc83 := NB195_193.out; have hcz84_0 : w81.cell? ⟨gb193, 0, none⟩ = some (.int .i64 a1_0) := (blk_cell BK193.out 0).trans rfl; have hcz84_1 : w81.cell? ⟨gb193, 1, none⟩ = some (.int .i64 a1_1) := (blk_cell BK193.out 1).trans rfl; have hcz84_2 : w81.cell? ⟨gb193, 2, none⟩ = some (.string a1_2) := (blk_cell BK193.out 2).trans rfl; have hcz84_3 : w81.cell? ⟨gb193, 3, none⟩ = some (.bool a1_3) := (blk_cell BK193.out 3).trans rfl; have hfz84_0 := blk_frozen BK193.out 0; have hfz84_1 := blk_frozen BK193.out 1; have hfz84_2 := blk_frozen BK193.out 2; have hfz84_3 := blk_frozen BK193.out 3; have hnb85 := NB194_195.out; have hnc85 := NB195_194.out; have hcz86_0 : w81.cell? ⟨gb194, 0, none⟩ = some (.int .i64 a2_0) := (blk_cell BK194.out 0).trans rfl; have hcz86_1 : w81.cell? ⟨gb194, 1, none⟩ = some (.int .i64 a2_1) := (blk_cell BK194.out 1).trans rfl; have hcz86_2 : w81.cell? ⟨gb194, 2, none⟩ = some (.string a2_2) := (blk_cell BK194.out 2).trans rfl; have hcz86_3 : w81.cell? ⟨gb194, 3, none⟩ = some (.bool a2_3) := (blk_cell BK194.out 3).trans rfl; have hfz86_0 := blk_frozen BK194.out 0; have hfz86_1 := blk_frozen BK194.out 1; have hfz86_2 := blk_frozen BK194.out 2; have hfz86_3 := blk_frozen BK194.out 3) | ((with_reducible refine gate_dst (N := 12) rfl ?_); refine Kd.R_lit k26 _ 26 ?hg (N := 12) ?hd (xs := ([(⟨a1_0, a1_1, a1_2, a1_3⟩ : S26), (⟨a2_0, a2_1, a2_2, a2_3⟩ : S26)] : List (S26))) (inner := [.int .i64 a1_0, .int .i64 a1_1, .string a1_2, .bool a1_3, .int .i64 a2_0, .int .i64 a2_1, .string a2_2, .bool a2_3]) (ok := fun _ => True) (okp := fun _ => True) ?hr ?hp (fun _ hk => hk) trivial (Below.refl _ _) (Nat.le_refl _) (by simp) ?_; (case hd => rfl); (case hg => rfl); (case hr => first | (go_simp; done) | (go_simp; rfl)); (case hp => exact (Reps.c4 (show Kd.M k26 _ _ _ (⟨a1_0, a1_1, a1_2, a1_3⟩ : S26) [.int .i64 a1_0, .int .i64 a1_1, .string a1_2, .bool a1_3] from (k26_mkM _ _ _ (⟨a1_0, a1_1, a1_2, a1_3⟩ : S26) )) (Reps.c4 (show Kd.M k26 _ _ _ (⟨a2_0, a2_1, a2_2, a2_3⟩ : S26) [.int .i64 a2_0, .int .i64 a2_1, .string a2_2, .bool a2_3] from (k26_mkM _ _ _ (⟨a2_0, a2_1, a2_2, a2_3⟩ : S26) )) (Reps.none _ _)))); intro v197 w87 ho88 hb hg_ hnew_; clear hg_ hnew_; (first | rw [← Ny196.out] at ho88 | (simp only [Int.reduceToNat] at ho88; rw [← Ny196.out] at ho88)); have HO198 := Aside0.mk (Kd.R_lower (Kd.R_newB (Kd.R_newB (Kd.R_newB ho88 (g := gb193) (o := .cells #[.int .i64 a1_0, .int .i64 a1_1, .string a1_2, .bool a1_3] 26 (0, 0)) (bkT BK193.out)) (g := gb194) (o := .cells #[.int .i64 a2_0, .int .i64 a2_1, .string a2_2, .bool a2_3] 26 (0, 0)) (bkT BK194.out)) (g := gb195) (o := .cells #[.int .i64 0, .int .i64 0, .string (⟨#[]⟩ : ByteArray), .bool false] 26 (0, 0)) (bkT BK195.out)) (below_size (hbT HB.out))); replace BK193 := bbA BK193 hb; replace BK194 := bbA BK194 hb; replace BK195 := bbA BK195 hb; replace HB := bsA HB hb; clear hb ho88; obtain ⟨Ao89, co89, eo89⟩ := Kd.R_slice HO198.out; subst eo89) | ((with_reducible refine gate_callee (f := 45) rfl ?_); refine goesT (some 13) Tryd.func45 #[.int .i64 a0, .int .i64 3, .int .i64 13, .slice Ao89 y196.length co89] ?_; (with_reducible refine (value_refusal.calls k a0 3 13 _ _ y196 t199 _ ?side1 ?side2 ?side3 A4.out).mono ?_); (case side1 => repeat (first | exact (Kd.R_reads' HO198.out).2.2 | (with_reducible refine Kd.C_alloc ?_ _) | (with_reducible refine Kd.C_drewN ?_ _) | (with_reducible refine Kd.C_drew ?_))); (case side2 => exact (Kd.R_reads' HO198.out).2.1); (case side3 => first | (with_reducible exact HL_LG0) | exact ⟨LG0.below HL_LG0.out (hbT HB.out)⟩); rintro e w90 ⟨rfl, hb⟩; refine ⟨_, rfl, ?_⟩; replace HO198 := Aside0.mk (Kd.R_below (by (with_reducible repeat (first | apply Kd.R_alloc | apply Kd.R_drewN | apply Kd.R_drew)); exact HO198.out) hb); replace BK193 := bbA BK193 hb; replace BK194 := bbA BK194 hb; replace BK195 := bbA BK195 hb; replace HB := bsA HB hb; (try clear hb); (try clear hb2); (try clear hk); (try clear hi); have hcz91_0 : w90.cell? ⟨gb195, 0, none⟩ = some (.int .i64 0) := (blk_cell BK195.out 0).trans rfl; have hcz91_1 : w90.cell? ⟨gb195, 1, none⟩ = some (.int .i64 0) := (blk_cell BK195.out 1).trans rfl; have hcz91_2 : w90.cell? ⟨gb195, 2, none⟩ = some (.string (⟨#[]⟩ : ByteArray)) := (blk_cell BK195.out 2).trans rfl; have hcz91_3 : w90.cell? ⟨gb195, 3, none⟩ = some (.bool false) := (blk_cell BK195.out 3).trans rfl; have hfz91_0 := blk_frozen BK195.out 0; have hfz91_1 := blk_frozen BK195.out 1; have hfz91_2 := blk_frozen BK195.out 2; have hfz91_3 := blk_frozen BK195.out 3))
    refine bodyPost_ret (results_ct rfl _ _ gb195 26 #[.int .i64 0, .int .i64 0, .string (⟨#[]⟩ : ByteArray), .bool false] (0, 0) _ rfl (by (with_reducible repeat (first | refine blk_drewN ?_ _ | refine blk_drew ?_ | refine blk_alloc ?_ _)); refine blk_put (cs := #[.int .i64 0, .int .i64 0, .string (⟨#[]⟩ : ByteArray), .bool false]) ?_ 3 _ rfl; (with_reducible repeat (first | refine blk_drewN ?_ _ | refine blk_drew ?_ | refine blk_alloc ?_ _)); refine blk_put (cs := #[.int .i64 0, .int .i64 0, .string (⟨#[]⟩ : ByteArray), .bool false]) ?_ 2 _ rfl; (with_reducible repeat (first | refine blk_drewN ?_ _ | refine blk_drew ?_ | refine blk_alloc ?_ _)); refine blk_put (cs := #[.int .i64 0, .int .i64 0, .string (⟨#[]⟩ : ByteArray), .bool false]) ?_ 1 _ rfl; (with_reducible repeat (first | refine blk_drewN ?_ _ | refine blk_drew ?_ | refine blk_alloc ?_ _)); refine blk_put (cs := #[.int .i64 0, .int .i64 0, .string (⟨#[]⟩ : ByteArray), .bool false]) ?_ 0 _ rfl; (with_reducible repeat (first | refine blk_drewN ?_ _ | refine blk_drew ?_ | refine blk_alloc ?_ _)); exact BK195.out) Tryd.underlying26 rfl (by kernel_rfl)) rfl ?_
    exact ⟨by first | rfl | (simp [errW_none, errW_some] <;> rfl) | (simp [*, errW_none, errW_some] <;> rfl), hbT HB.out⟩

/-! ### refrainlaw1_begun: function 10 -/
def refrainlaw1_begun.f (k : Nat)  : Option (Bool) := (value_Show.f 1 (-12) (⟨#[]⟩ : ByteArray) false).bind fun bt217 => ((value_Binary.f k 3 1 2 (⟨#[]⟩ : ByteArray) false 1 3 (⟨#[]⟩ : ByteArray) false).bind fun bt219 => ((value_Read.f k (⟨#[34, 97, 34]⟩ : ByteArray)).bind fun bt225 => ((value_Valid.f bt219.1 bt219.2.1 bt219.2.2.1 bt219.2.2.2.1).bind fun t231 => (if t231 = true then (if bt217.2 = 0 then (if bt217.1.toList = ([45, 49, 50] : List UInt8) then (if bt219.2.2.2.2 = 0 then (if (bt219.1 == 1 && (bt219.2.1 == 5 && (bt219.2.2.1.toList == ([] : List UInt8) && (!bt219.2.2.2.1)))) = true then (if bt225.2.2.2.2 = 0 then (some (bt225.1 == 2 && (bt225.2.1 == 0 && (bt225.2.2.1.toList == ([97] : List UInt8) && (!bt225.2.2.2.1))))) else (some false)) else (some false)) else (some false)) else (some false)) else (some false)) else (some false)))))
set_option maxRecDepth 100000 in
theorem refrainlaw1_begun.mono : ∀ k, LeO (refrainlaw1_begun.f k ) (refrainlaw1_begun.f (k + 1) ) := by
  intro  k
  unfold refrainlaw1_begun.f
  repeat' first
      | (with_reducible exact value_Binary.mono _ _ _ _ _ _ _ _ _ _)
      | (with_reducible exact value_Read.mono _ _)
      | (with_reducible exact LeO.refl _)
      | (with_reducible exact LeO.none _)
      | (with_reducible refine LeO.ite ?_ ?_)
      | (with_reducible refine LeO.bind ?_ (fun _ => ?_))
      | exact value_Binary.mono _ _ _ _ _ _ _ _ _ _
      | exact value_Read.mono _ _
      | exact LeO.none _
      | refine LeO.ite ?_ ?_
      | refine LeO.bind ?_ (fun _ => ?_)
set_option maxHeartbeats 8000000 in
set_option maxRecDepth 100000 in
theorem refrainlaw1_begun.calls (k : Nat)  (r : Bool) (w : World) (HL_LErr : Aside0 (LErr w)) (HL_LG0 : Aside0 (LG0 w)) (HL_LG1 : Aside0 (LG1 w)) (HL_LSyn : Aside0 (LSyn w)) (h : refrainlaw1_begun.f k  = some r) (hr : r = true) :
    Calls Tryd.prog 10 #[] w fun e w' => e = .returned (.bool r) ∧ Below w.heap.size w w' := by
  replace hr := Aside0.mk hr
  have hu26 := Tryd.underlying26
  have HB := Aside0.mk (Below.refl w.heap.size w)
  have H : ((value_Show.f 1 (-12) (⟨#[]⟩ : ByteArray) false).bind fun bt217 => ((value_Binary.f k 3 1 2 (⟨#[]⟩ : ByteArray) false 1 3 (⟨#[]⟩ : ByteArray) false).bind fun bt219 => ((value_Read.f k (⟨#[34, 97, 34]⟩ : ByteArray)).bind fun bt225 => ((value_Valid.f bt219.1 bt219.2.1 bt219.2.2.1 bt219.2.2.2.1).bind fun t231 => (if t231 = true then (if bt217.2 = 0 then (if bt217.1.toList = ([45, 49, 50] : List UInt8) then (if bt219.2.2.2.2 = 0 then (if (bt219.1 == 1 && (bt219.2.1 == 5 && (bt219.2.2.1.toList == ([] : List UInt8) && (!bt219.2.2.2.1)))) = true then (if bt225.2.2.2.2 = 0 then (some (bt225.1 == 2 && (bt225.2.1 == 0 && (bt225.2.2.1.toList == ([97] : List UInt8) && (!bt225.2.2.2.1))))) else (some false)) else (some false)) else (some false)) else (some false)) else (some false)) else (some false)))))) = some r := h
  clear h
  replace H := Option.bind_eq_some_iff.mp H
  obtain ⟨⟨t217, t218⟩, A10, H⟩ := H
  replace H : ((value_Binary.f k 3 1 2 (⟨#[]⟩ : ByteArray) false 1 3 (⟨#[]⟩ : ByteArray) false).bind fun bt219 => ((value_Read.f k (⟨#[34, 97, 34]⟩ : ByteArray)).bind fun bt225 => ((value_Valid.f bt219.1 bt219.2.1 bt219.2.2.1 bt219.2.2.2.1).bind fun t231 => (if t231 = true then (if t218 = 0 then (if t217.toList = ([45, 49, 50] : List UInt8) then (if bt219.2.2.2.2 = 0 then (if (bt219.1 == 1 && (bt219.2.1 == 5 && (bt219.2.2.1.toList == ([] : List UInt8) && (!bt219.2.2.2.1)))) = true then (if bt225.2.2.2.2 = 0 then (some (bt225.1 == 2 && (bt225.2.1 == 0 && (bt225.2.2.1.toList == ([97] : List UInt8) && (!bt225.2.2.2.1))))) else (some false)) else (some false)) else (some false)) else (some false)) else (some false)) else (some false))))) = some r := H
  have A1 := Aside0.mk A10
  clear A10
  replace H := Option.bind_eq_some_iff.mp H
  obtain ⟨⟨t219, t220, t221, t222, t223⟩, A20, H⟩ := H
  replace H : ((value_Read.f k (⟨#[34, 97, 34]⟩ : ByteArray)).bind fun bt225 => ((value_Valid.f t219 t220 t221 t222).bind fun t231 => (if t231 = true then (if t218 = 0 then (if t217.toList = ([45, 49, 50] : List UInt8) then (if t223 = 0 then (if (t219 == 1 && (t220 == 5 && (t221.toList == ([] : List UInt8) && (!t222)))) = true then (if bt225.2.2.2.2 = 0 then (some (bt225.1 == 2 && (bt225.2.1 == 0 && (bt225.2.2.1.toList == ([97] : List UInt8) && (!bt225.2.2.2.1))))) else (some false)) else (some false)) else (some false)) else (some false)) else (some false)) else (some false)))) = some r := H
  have A2 := Aside0.mk A20
  clear A20
  replace H := Option.bind_eq_some_iff.mp H
  obtain ⟨⟨t225, t226, t227, t228, t229⟩, A30, H⟩ := H
  replace H : ((value_Valid.f t219 t220 t221 t222).bind fun t231 => (if t231 = true then (if t218 = 0 then (if t217.toList = ([45, 49, 50] : List UInt8) then (if t223 = 0 then (if (t219 == 1 && (t220 == 5 && (t221.toList == ([] : List UInt8) && (!t222)))) = true then (if t229 = 0 then (some (t225 == 2 && (t226 == 0 && (t227.toList == ([97] : List UInt8) && (!t228))))) else (some false)) else (some false)) else (some false)) else (some false)) else (some false)) else (some false))) = some r := H
  have A3 := Aside0.mk A30
  clear A30
  replace H := Option.bind_eq_some_iff.mp H
  obtain ⟨t231, A40, H⟩ := H
  replace H : (if t231 = true then (if t218 = 0 then (if t217.toList = ([45, 49, 50] : List UInt8) then (if t223 = 0 then (if (t219 == 1 && (t220 == 5 && (t221.toList == ([] : List UInt8) && (!t222)))) = true then (if t229 = 0 then (some (t225 == 2 && (t226 == 0 && (t227.toList == ([97] : List UInt8) && (!t228))))) else (some false)) else (some false)) else (some false)) else (some false)) else (some false)) else (some false)) = some r := H
  have A4 := Aside0.mk A40
  clear A40
  by_cases c5 : t231 = true
  · subst c5
    have H1 : (if t218 = 0 then (if t217.toList = ([45, 49, 50] : List UInt8) then (if t223 = 0 then (if (t219 == 1 && (t220 == 5 && (t221.toList == ([] : List UInt8) && (!t222)))) = true then (if t229 = 0 then (some (t225 == 2 && (t226 == 0 && (t227.toList == ([97] : List UInt8) && (!t228))))) else (some false)) else (some false)) else (some false)) else (some false)) else (some false)) = some r := by rw [if_pos rfl] at H; exact H
    clear H
    have H := H1
    clear H1
    by_cases c6 : t218 = 0
    · rw [if_pos c6] at H
      have c6b0 : (t218 == 0) = true := beq_iff_eq.mpr c6
      have c6b1 : (t218 != 0) = false := bne_eq_false_iff_eq.mpr c6
      clear c6
      by_cases c7 : t217.toList = ([45, 49, 50] : List UInt8)
      · rw [if_pos c7] at H
        have c7b0 : (t217.toList == ([45, 49, 50] : List UInt8)) = true := beq_iff_eq.mpr c7
        have c7b1 : (t217.toList != ([45, 49, 50] : List UInt8)) = false := bne_eq_false_iff_eq.mpr c7
        clear c7
        by_cases c8 : t223 = 0
        · rw [if_pos c8] at H
          have c8b0 : (t223 == 0) = true := beq_iff_eq.mpr c8
          have c8b1 : (t223 != 0) = false := bne_eq_false_iff_eq.mpr c8
          clear c8
          by_cases c9 : (t219 == 1 && (t220 == 5 && (t221.toList == ([] : List UInt8) && (!t222)))) = true
          · rw [if_pos c9] at H
            have c9b0 : (t219 == 1 && (t220 == 5 && (t221.toList == ([] : List UInt8) && (!t222)))) = true := c9
            (try (have c9b5 := c9; simp only [Bool.and_eq_true, beq_iff_eq, Bool.not_eq_true', Bool.not_eq_true, bne_iff_ne, decide_eq_true_eq] at c9b5; replace c9b5 := Aside0.mk c9b5))
            (try (have c9b1 : decide (t219 = 1 && (t220 == 5 && (t221.toList == ([] : List UInt8) && (!t222)))) = true := by simpa using c9))
            (try (have c9b2 : (t219 == 1 && (t220 == 5 && (t221.toList == ([] : List UInt8) && (!t222)))) = true := by simpa using c9))
            clear c9
            by_cases c10 : t229 = 0
            · rw [if_pos c10] at H
              have c10b0 : (t229 == 0) = true := beq_iff_eq.mpr c10
              have c10b1 : (t229 != 0) = false := bne_eq_false_iff_eq.mpr c10
              clear c10
              obtain rfl := Option.some.inj H
              go_enter Tryd.func10, Tryd.ntmps10
              go_wp2_with (first | ((with_reducible refine gate_callee (f := 13) rfl ?_); refine goesT (some 10) Tryd.func13 #[.agg #[.int .i64 1, .int .i64 (-12), .string (⟨#[]⟩ : ByteArray), .bool false]] ?_; (with_reducible refine (value_Show.calls 1 (-12) (⟨#[]⟩ : ByteArray) false t217 t218 _ ?side1 A1.out).mono ?_); (case side1 => first | (with_reducible exact HL_LG1) | exact ⟨LG1.below HL_LG1.out (hbT HB.out)⟩); rintro e w11 ⟨rfl, hb⟩; refine ⟨_, rfl, ?_⟩; replace HB := bsA HB hb; (try clear hb); (try clear hb2); (try clear hk); (try clear hi)) | ((with_reducible refine gate_callee (f := 20) rfl ?_); refine goesT (some 16) Tryd.func20 #[.int .i64 3, .agg #[.int .i64 1, .int .i64 2, .string (⟨#[]⟩ : ByteArray), .bool false], .agg #[.int .i64 1, .int .i64 3, .string (⟨#[]⟩ : ByteArray), .bool false]] ?_; (with_reducible refine (value_Binary.calls k 3 1 2 (⟨#[]⟩ : ByteArray) false 1 3 (⟨#[]⟩ : ByteArray) false t219 t220 t221 t222 t223 _ ?side1 A2.out).mono ?_); (case side1 => first | (with_reducible exact HL_LG0) | exact ⟨LG0.below HL_LG0.out (hbT HB.out)⟩); rintro e w12 ⟨rfl, hb⟩; refine ⟨_, rfl, ?_⟩; replace HB := bsA HB hb; (try clear hb); (try clear hb2); (try clear hk); (try clear hi)) | ((with_reducible refine gate_dst (N := 3) rfl ?_); refine box_event ?hg (N := 3) ?hd (cs := #[.int .i64 0, .int .i64 0, .string (⟨#[]⟩ : ByteArray), .bool false]) (t := 26) ?hr ?_; (case hd => rfl); (case hg => rfl); (case hr => first | (go_simp; done) | (go_simp; rfl)); intro gb224 hg w13 hbox hb; have BK224 := Aside0.mk hbox; have GW224 := geA hg HB; have GE224 := geA hg HB; replace HB := bsA HB hb; clear hb hbox hg; have hcz14_0 : w13.cell? ⟨gb224, 0, none⟩ = some (.int .i64 0) := (blk_cell BK224.out 0).trans rfl; have hcz14_1 : w13.cell? ⟨gb224, 1, none⟩ = some (.int .i64 0) := (blk_cell BK224.out 1).trans rfl; have hcz14_2 : w13.cell? ⟨gb224, 2, none⟩ = some (.string (⟨#[]⟩ : ByteArray)) := (blk_cell BK224.out 2).trans rfl; have hcz14_3 : w13.cell? ⟨gb224, 3, none⟩ = some (.bool false) := (blk_cell BK224.out 3).trans rfl; have hfz14_0 := blk_frozen BK224.out 0; have hfz14_1 := blk_frozen BK224.out 1; have hfz14_2 := blk_frozen BK224.out 2; have hfz14_3 := blk_frozen BK224.out 3) | ((with_reducible refine gate_callee (f := 15) rfl ?_); refine goesT (some 20) Tryd.func15 #[.string (⟨#[34, 97, 34]⟩ : ByteArray)] ?_; (with_reducible refine (value_Read.calls k (⟨#[34, 97, 34]⟩ : ByteArray) t225 t226 t227 t228 t229 _ ?side1 ?side2 ?side3 A3.out).mono ?_); (case side1 => first | (with_reducible exact HL_LErr) | exact ⟨LErr.below HL_LErr.out (hbT HB.out)⟩); (case side2 => first | (with_reducible exact HL_LG1) | exact ⟨LG1.below HL_LG1.out (hbT HB.out)⟩); (case side3 => first | (with_reducible exact HL_LSyn) | exact ⟨LSyn.below HL_LSyn.out (hbT HB.out)⟩); rintro e w15 ⟨rfl, hb⟩; refine ⟨_, rfl, ?_⟩; replace BK224 := Aside0.mk (blk_below (g := gb224) (o := .cells #[.int .i64 t219, .int .i64 t220, .string t221, .bool t222] 26 (0, 0)) (by (with_reducible repeat (first | refine blk_drewN ?_ _ | refine blk_drew ?_ | refine blk_alloc ?_ _)); refine blk_put (cs := #[.int .i64 t219, .int .i64 t220, .string t221, .bool false]) ?_ 3 _ rfl; (with_reducible repeat (first | refine blk_drewN ?_ _ | refine blk_drew ?_ | refine blk_alloc ?_ _)); refine blk_put (cs := #[.int .i64 t219, .int .i64 t220, .string (⟨#[]⟩ : ByteArray), .bool false]) ?_ 2 _ rfl; (with_reducible repeat (first | refine blk_drewN ?_ _ | refine blk_drew ?_ | refine blk_alloc ?_ _)); refine blk_put (cs := #[.int .i64 t219, .int .i64 0, .string (⟨#[]⟩ : ByteArray), .bool false]) ?_ 1 _ rfl; (with_reducible repeat (first | refine blk_drewN ?_ _ | refine blk_drew ?_ | refine blk_alloc ?_ _)); refine blk_put (cs := #[.int .i64 0, .int .i64 0, .string (⟨#[]⟩ : ByteArray), .bool false]) ?_ 0 _ rfl; (with_reducible repeat (first | refine blk_drewN ?_ _ | refine blk_drew ?_ | refine blk_alloc ?_ _)); exact BK224.out) hb); replace HB := bsA HB hb; (try clear hb); (try clear hb2); (try clear hk); (try clear hi)) | ((with_reducible refine gate_dst (N := 5) rfl ?_); refine box_event ?hg (N := 5) ?hd (cs := #[.int .i64 0, .int .i64 0, .string (⟨#[]⟩ : ByteArray), .bool false]) (t := 26) ?hr ?_; (case hd => rfl); (case hg => rfl); (case hr => first | (go_simp; done) | (go_simp; rfl)); intro gb230 hg w16 hbox hb; have BK230 := Aside0.mk hbox; have GW230 := geA hg HB; have GE230 := geA hg HB; have NB224_230 := neA hg BK224; have NB230_224 := neB hg BK224; replace BK224 := bbA BK224 hb; replace HB := bsA HB hb; clear hb hbox hg; have hnb17 := NB230_224.out; have hnc17 := NB224_230.out; have hcz18_0 : w16.cell? ⟨gb230, 0, none⟩ = some (.int .i64 0) := (blk_cell BK230.out 0).trans rfl; have hcz18_1 : w16.cell? ⟨gb230, 1, none⟩ = some (.int .i64 0) := (blk_cell BK230.out 1).trans rfl; have hcz18_2 : w16.cell? ⟨gb230, 2, none⟩ = some (.string (⟨#[]⟩ : ByteArray)) := (blk_cell BK230.out 2).trans rfl; have hcz18_3 : w16.cell? ⟨gb230, 3, none⟩ = some (.bool false) := (blk_cell BK230.out 3).trans rfl; have hfz18_0 := blk_frozen BK230.out 0; have hfz18_1 := blk_frozen BK230.out 1; have hfz18_2 := blk_frozen BK230.out 2; have hfz18_3 := blk_frozen BK230.out 3; have hcz19_0 : w16.cell? ⟨gb224, 0, none⟩ = some (.int .i64 t219) := (blk_cell BK224.out 0).trans rfl; have hcz19_1 : w16.cell? ⟨gb224, 1, none⟩ = some (.int .i64 t220) := (blk_cell BK224.out 1).trans rfl; have hcz19_2 : w16.cell? ⟨gb224, 2, none⟩ = some (.string t221) := (blk_cell BK224.out 2).trans rfl; have hcz19_3 : w16.cell? ⟨gb224, 3, none⟩ = some (.bool t222) := (blk_cell BK224.out 3).trans rfl; have hfz19_0 := blk_frozen BK224.out 0; have hfz19_1 := blk_frozen BK224.out 1; have hfz19_2 := blk_frozen BK224.out 2; have hfz19_3 := blk_frozen BK224.out 3) | ((with_reducible refine gate_callee (f := 11) rfl ?_); refine goesT (some 24) Tryd.func11 #[.agg #[.int .i64 t219, .int .i64 t220, .string t221, .bool t222]] ?_; (with_reducible refine (value_Valid.calls t219 t220 t221 t222 true _ A4.out).mono ?_); rintro e w20 ⟨rfl, hb⟩; refine ⟨_, rfl, ?_⟩; replace BK224 := Aside0.mk (blk_below (g := gb224) (o := .cells #[.int .i64 t219, .int .i64 t220, .string t221, .bool t222] 26 (0, 0)) (bfT NB224_230.out BK224.out) hb); replace BK230 := Aside0.mk (blk_below (g := gb230) (o := .cells #[.int .i64 t225, .int .i64 t226, .string t227, .bool t228] 26 (0, 0)) (by (with_reducible repeat (first | refine blk_drewN ?_ _ | refine blk_drew ?_ | refine blk_alloc ?_ _)); refine blk_put (cs := #[.int .i64 t225, .int .i64 t226, .string t227, .bool false]) ?_ 3 _ rfl; (with_reducible repeat (first | refine blk_drewN ?_ _ | refine blk_drew ?_ | refine blk_alloc ?_ _)); refine blk_put (cs := #[.int .i64 t225, .int .i64 t226, .string (⟨#[]⟩ : ByteArray), .bool false]) ?_ 2 _ rfl; (with_reducible repeat (first | refine blk_drewN ?_ _ | refine blk_drew ?_ | refine blk_alloc ?_ _)); refine blk_put (cs := #[.int .i64 t225, .int .i64 0, .string (⟨#[]⟩ : ByteArray), .bool false]) ?_ 1 _ rfl; (with_reducible repeat (first | refine blk_drewN ?_ _ | refine blk_drew ?_ | refine blk_alloc ?_ _)); refine blk_put (cs := #[.int .i64 0, .int .i64 0, .string (⟨#[]⟩ : ByteArray), .bool false]) ?_ 0 _ rfl; (with_reducible repeat (first | refine blk_drewN ?_ _ | refine blk_drew ?_ | refine blk_alloc ?_ _)); exact BK230.out) hb); replace HB := bsA HB hb; (try clear hb); (try clear hb2); (try clear hk); (try clear hi); have hcz21_0 : w20.cell? ⟨gb224, 0, none⟩ = some (.int .i64 t219) := (blk_cell BK224.out 0).trans rfl; have hcz21_1 : w20.cell? ⟨gb224, 1, none⟩ = some (.int .i64 t220) := (blk_cell BK224.out 1).trans rfl; have hcz21_2 : w20.cell? ⟨gb224, 2, none⟩ = some (.string t221) := (blk_cell BK224.out 2).trans rfl; have hcz21_3 : w20.cell? ⟨gb224, 3, none⟩ = some (.bool t222) := (blk_cell BK224.out 3).trans rfl; have hfz21_0 := blk_frozen BK224.out 0; have hfz21_1 := blk_frozen BK224.out 1; have hfz21_2 := blk_frozen BK224.out 2; have hfz21_3 := blk_frozen BK224.out 3; have hcz22_0 : w20.cell? ⟨gb230, 0, none⟩ = some (.int .i64 t225) := (blk_cell BK230.out 0).trans rfl; have hcz22_1 : w20.cell? ⟨gb230, 1, none⟩ = some (.int .i64 t226) := (blk_cell BK230.out 1).trans rfl; have hcz22_2 : w20.cell? ⟨gb230, 2, none⟩ = some (.string t227) := (blk_cell BK230.out 2).trans rfl; have hcz22_3 : w20.cell? ⟨gb230, 3, none⟩ = some (.bool t228) := (blk_cell BK230.out 3).trans rfl; have hfz22_0 := blk_frozen BK230.out 0; have hfz22_1 := blk_frozen BK230.out 1; have hfz22_2 := blk_frozen BK230.out 2; have hfz22_3 := blk_frozen BK230.out 3))
              (try any_goals (exfalso; first | (have h_ := c9b5.out; contradiction)))
              go_ret
              exact ⟨by first | rfl | (simp [errW_none, errW_some] <;> rfl) | (simp [*, errW_none, errW_some] <;> rfl), hbT HB.out⟩
            · rw [if_neg c10] at H
              have c10b0 : (t229 == 0) = false := beq_eq_false_iff_ne.mpr c10
              have c10b1 : (t229 != 0) = true := bne_iff_ne.mpr c10
              exact absurd ((Option.some.inj H).trans hr.out) Bool.false_ne_true
          · rw [if_neg c9] at H
            have c9b0 : (t219 == 1 && (t220 == 5 && (t221.toList == ([] : List UInt8) && (!t222)))) = false := by simpa using c9
            (try (have c9b5 := c9; simp only [Bool.and_eq_true, beq_iff_eq, Bool.not_eq_true', Bool.not_eq_true, bne_iff_ne, decide_eq_true_eq] at c9b5; replace c9b5 := Aside0.mk c9b5))
            (try (have c9b1 : decide (t219 = 1 && (t220 == 5 && (t221.toList == ([] : List UInt8) && (!t222)))) = false := by simpa using c9))
            (try (have c9b2 : (t219 == 1 && (t220 == 5 && (t221.toList == ([] : List UInt8) && (!t222)))) = false := by simpa using c9))
            (try (have c9b3 : ¬ (t219 = 1 && (t220 == 5 && (t221.toList == ([] : List UInt8) && (!t222)))) := by simpa using c9))
            clear c9
            exact absurd ((Option.some.inj H).trans hr.out) Bool.false_ne_true
        · rw [if_neg c8] at H
          have c8b0 : (t223 == 0) = false := beq_eq_false_iff_ne.mpr c8
          have c8b1 : (t223 != 0) = true := bne_iff_ne.mpr c8
          exact absurd ((Option.some.inj H).trans hr.out) Bool.false_ne_true
      · rw [if_neg c7] at H
        have c7b0 : (t217.toList == ([45, 49, 50] : List UInt8)) = false := beq_eq_false_iff_ne.mpr c7
        have c7b1 : (t217.toList != ([45, 49, 50] : List UInt8)) = true := bne_iff_ne.mpr c7
        exact absurd ((Option.some.inj H).trans hr.out) Bool.false_ne_true
    · rw [if_neg c6] at H
      have c6b0 : (t218 == 0) = false := beq_eq_false_iff_ne.mpr c6
      have c6b1 : (t218 != 0) = true := bne_iff_ne.mpr c6
      exact absurd ((Option.some.inj H).trans hr.out) Bool.false_ne_true
  · replace c5 := Bool.eq_false_iff.mpr c5
    subst c5
    have H1 : (some false) = some r := by rw [if_neg (show ¬ (false = true) by decide)] at H; exact H
    clear H
    have H := H1
    clear H1
    exact absurd ((Option.some.inj H).trans hr.out) Bool.false_ne_true

/-! ### refrainref1_Valid: function 12 -/
def refrainref1_Valid.f (a0_0 : Int) (a0_1 : Int) (a0_2 : ByteArray) (a0_3 : Bool) : Option (Bool) := if a0_0 = 1 then (if a0_2.toList = ([] : List UInt8) then (some (!a0_3)) else (some false)) else (if a0_0 = 2 then (if a0_1 = 0 then (if a0_3 = true then (some false) else (some (decide ((a0_2.size : Int) ≤ 256)))) else (some false)) else (if a0_0 = 3 then (if a0_1 = 0 then (some (a0_2.toList == ([] : List UInt8))) else (some false)) else (some false)))
set_option maxHeartbeats 8000000 in
set_option maxRecDepth 100000 in
theorem refrainref1_Valid.calls (a0_0 : Int) (a0_1 : Int) (a0_2 : ByteArray) (a0_3 : Bool) (r : Bool) (w : World) (h : refrainref1_Valid.f a0_0 a0_1 a0_2 a0_3 = some r) :
    Calls Tryd.prog 12 #[.agg #[.int .i64 a0_0, .int .i64 a0_1, .string a0_2, .bool a0_3]] w fun e w' => e = .returned (.bool r) ∧ Below w.heap.size w w' := by
  have hu26 := Tryd.underlying26
  have HB := Aside0.mk (Below.refl w.heap.size w)
  have H : (if a0_0 = 1 then (if a0_2.toList = ([] : List UInt8) then (some (!a0_3)) else (some false)) else (if a0_0 = 2 then (if a0_1 = 0 then (if a0_3 = true then (some false) else (some (decide ((a0_2.size : Int) ≤ 256)))) else (some false)) else (if a0_0 = 3 then (if a0_1 = 0 then (some (a0_2.toList == ([] : List UInt8))) else (some false)) else (some false)))) = some r := h
  clear h
  by_cases c2 : a0_0 = 1
  · rw [if_pos c2] at H
    have c2b0 : (a0_0 == 1) = true := beq_iff_eq.mpr c2
    have c2b1 : (a0_0 != 1) = false := bne_eq_false_iff_eq.mpr c2
    clear c2
    by_cases c3 : a0_2.toList = ([] : List UInt8)
    · rw [if_pos c3] at H
      have c3b0 : (a0_2.toList == ([] : List UInt8)) = true := beq_iff_eq.mpr c3
      have c3b1 : (a0_2.toList != ([] : List UInt8)) = false := bne_eq_false_iff_eq.mpr c3
      clear c3
      obtain rfl := Option.some.inj H
      go_enter Tryd.func12, Tryd.ntmps12
      go_wp2_with (first | ((with_reducible refine gate_dst (N := 1) rfl ?_); (try (refine gate_guard (by rfl) ?_; dsimp only)); refine box_event ?hg (N := 1) ?hd (cs := #[.int .i64 a0_0, .int .i64 a0_1, .string a0_2, .bool a0_3]) (t := 26) ?hr ?_; (case hd => rfl); (case hg => rfl); (case hr => first | (go_simp; done) | (go_simp; rfl)); intro gb232 hg w4 hbox hb; have BK232 := Aside0.mk hbox; have GW232 := geA hg HB; have GE232 := geA hg HB; replace HB := bsA HB hb; clear hb hbox hg; have hcz5_0 : w4.cell? ⟨gb232, 0, none⟩ = some (.int .i64 a0_0) := (blk_cell BK232.out 0).trans rfl; have hcz5_1 : w4.cell? ⟨gb232, 1, none⟩ = some (.int .i64 a0_1) := (blk_cell BK232.out 1).trans rfl; have hcz5_2 : w4.cell? ⟨gb232, 2, none⟩ = some (.string a0_2) := (blk_cell BK232.out 2).trans rfl; have hcz5_3 : w4.cell? ⟨gb232, 3, none⟩ = some (.bool a0_3) := (blk_cell BK232.out 3).trans rfl; have hfz5_0 := blk_frozen BK232.out 0; have hfz5_1 := blk_frozen BK232.out 1; have hfz5_2 := blk_frozen BK232.out 2; have hfz5_3 := blk_frozen BK232.out 3))
      go_ret
      exact ⟨by first | rfl | (simp [errW_none, errW_some] <;> rfl) | (simp [*, errW_none, errW_some] <;> rfl), hbT HB.out⟩
    · rw [if_neg c3] at H
      have c3b0 : (a0_2.toList == ([] : List UInt8)) = false := beq_eq_false_iff_ne.mpr c3
      have c3b1 : (a0_2.toList != ([] : List UInt8)) = true := bne_iff_ne.mpr c3
      obtain rfl := Option.some.inj H
      go_enter Tryd.func12, Tryd.ntmps12
      go_wp2_with (first | ((with_reducible refine gate_dst (N := 1) rfl ?_); (try (refine gate_guard (by rfl) ?_; dsimp only)); refine box_event ?hg (N := 1) ?hd (cs := #[.int .i64 a0_0, .int .i64 a0_1, .string a0_2, .bool a0_3]) (t := 26) ?hr ?_; (case hd => rfl); (case hg => rfl); (case hr => first | (go_simp; done) | (go_simp; rfl)); intro gb232 hg w6 hbox hb; have BK232 := Aside0.mk hbox; have GW232 := geA hg HB; have GE232 := geA hg HB; replace HB := bsA HB hb; clear hb hbox hg; have hcz7_0 : w6.cell? ⟨gb232, 0, none⟩ = some (.int .i64 a0_0) := (blk_cell BK232.out 0).trans rfl; have hcz7_1 : w6.cell? ⟨gb232, 1, none⟩ = some (.int .i64 a0_1) := (blk_cell BK232.out 1).trans rfl; have hcz7_2 : w6.cell? ⟨gb232, 2, none⟩ = some (.string a0_2) := (blk_cell BK232.out 2).trans rfl; have hcz7_3 : w6.cell? ⟨gb232, 3, none⟩ = some (.bool a0_3) := (blk_cell BK232.out 3).trans rfl; have hfz7_0 := blk_frozen BK232.out 0; have hfz7_1 := blk_frozen BK232.out 1; have hfz7_2 := blk_frozen BK232.out 2; have hfz7_3 := blk_frozen BK232.out 3))
      go_ret
      exact ⟨by first | rfl | (simp [errW_none, errW_some] <;> rfl) | (simp [*, errW_none, errW_some] <;> rfl), hbT HB.out⟩
  · rw [if_neg c2] at H
    have c2b0 : (a0_0 == 1) = false := beq_eq_false_iff_ne.mpr c2
    have c2b1 : (a0_0 != 1) = true := bne_iff_ne.mpr c2
    by_cases c8 : a0_0 = 2
    · rw [if_pos c8] at H
      have c8b0 : (a0_0 == 2) = true := beq_iff_eq.mpr c8
      have c8b1 : (a0_0 != 2) = false := bne_eq_false_iff_eq.mpr c8
      clear c8
      by_cases c9 : a0_1 = 0
      · rw [if_pos c9] at H
        have c9b0 : (a0_1 == 0) = true := beq_iff_eq.mpr c9
        have c9b1 : (a0_1 != 0) = false := bne_eq_false_iff_eq.mpr c9
        clear c9
        by_cases c10 : a0_3 = true
        · subst c10
          have H1 : (some false) = some r := by rw [if_pos rfl] at H; exact H
          clear H
          have H := H1
          clear H1
          obtain rfl := Option.some.inj H
          go_enter Tryd.func12, Tryd.ntmps12
          go_wp2_with (first | ((with_reducible refine gate_dst (N := 1) rfl ?_); (try (refine gate_guard (by rfl) ?_; dsimp only)); refine box_event ?hg (N := 1) ?hd (cs := #[.int .i64 a0_0, .int .i64 a0_1, .string a0_2, .bool true]) (t := 26) ?hr ?_; (case hd => rfl); (case hg => rfl); (case hr => first | (go_simp; done) | (go_simp; rfl)); intro gb232 hg w11 hbox hb; have BK232 := Aside0.mk hbox; have GW232 := geA hg HB; have GE232 := geA hg HB; replace HB := bsA HB hb; clear hb hbox hg; have hcz12_0 : w11.cell? ⟨gb232, 0, none⟩ = some (.int .i64 a0_0) := (blk_cell BK232.out 0).trans rfl; have hcz12_1 : w11.cell? ⟨gb232, 1, none⟩ = some (.int .i64 a0_1) := (blk_cell BK232.out 1).trans rfl; have hcz12_2 : w11.cell? ⟨gb232, 2, none⟩ = some (.string a0_2) := (blk_cell BK232.out 2).trans rfl; have hcz12_3 : w11.cell? ⟨gb232, 3, none⟩ = some (.bool true) := (blk_cell BK232.out 3).trans rfl; have hfz12_0 := blk_frozen BK232.out 0; have hfz12_1 := blk_frozen BK232.out 1; have hfz12_2 := blk_frozen BK232.out 2; have hfz12_3 := blk_frozen BK232.out 3))
          go_ret
          exact ⟨by first | rfl | (simp [errW_none, errW_some] <;> rfl) | (simp [*, errW_none, errW_some] <;> rfl), hbT HB.out⟩
        · replace c10 := Bool.eq_false_iff.mpr c10
          subst c10
          have H1 : (some (decide ((a0_2.size : Int) ≤ 256))) = some r := by rw [if_neg (show ¬ (false = true) by decide)] at H; exact H
          clear H
          have H := H1
          clear H1
          obtain rfl := Option.some.inj H
          go_enter Tryd.func12, Tryd.ntmps12
          go_wp2_with (first | ((with_reducible refine gate_dst (N := 1) rfl ?_); (try (refine gate_guard (by rfl) ?_; dsimp only)); refine box_event ?hg (N := 1) ?hd (cs := #[.int .i64 a0_0, .int .i64 a0_1, .string a0_2, .bool false]) (t := 26) ?hr ?_; (case hd => rfl); (case hg => rfl); (case hr => first | (go_simp; done) | (go_simp; rfl)); intro gb232 hg w13 hbox hb; have BK232 := Aside0.mk hbox; have GW232 := geA hg HB; have GE232 := geA hg HB; replace HB := bsA HB hb; clear hb hbox hg; have hcz14_0 : w13.cell? ⟨gb232, 0, none⟩ = some (.int .i64 a0_0) := (blk_cell BK232.out 0).trans rfl; have hcz14_1 : w13.cell? ⟨gb232, 1, none⟩ = some (.int .i64 a0_1) := (blk_cell BK232.out 1).trans rfl; have hcz14_2 : w13.cell? ⟨gb232, 2, none⟩ = some (.string a0_2) := (blk_cell BK232.out 2).trans rfl; have hcz14_3 : w13.cell? ⟨gb232, 3, none⟩ = some (.bool false) := (blk_cell BK232.out 3).trans rfl; have hfz14_0 := blk_frozen BK232.out 0; have hfz14_1 := blk_frozen BK232.out 1; have hfz14_2 := blk_frozen BK232.out 2; have hfz14_3 := blk_frozen BK232.out 3))
          go_ret
          exact ⟨by first | rfl | (simp [errW_none, errW_some] <;> rfl) | (simp [*, errW_none, errW_some] <;> rfl), hbT HB.out⟩
      · rw [if_neg c9] at H
        have c9b0 : (a0_1 == 0) = false := beq_eq_false_iff_ne.mpr c9
        have c9b1 : (a0_1 != 0) = true := bne_iff_ne.mpr c9
        obtain rfl := Option.some.inj H
        go_enter Tryd.func12, Tryd.ntmps12
        go_wp2_with (first | ((with_reducible refine gate_dst (N := 1) rfl ?_); (try (refine gate_guard (by rfl) ?_; dsimp only)); refine box_event ?hg (N := 1) ?hd (cs := #[.int .i64 a0_0, .int .i64 a0_1, .string a0_2, .bool a0_3]) (t := 26) ?hr ?_; (case hd => rfl); (case hg => rfl); (case hr => first | (go_simp; done) | (go_simp; rfl)); intro gb232 hg w15 hbox hb; have BK232 := Aside0.mk hbox; have GW232 := geA hg HB; have GE232 := geA hg HB; replace HB := bsA HB hb; clear hb hbox hg; have hcz16_0 : w15.cell? ⟨gb232, 0, none⟩ = some (.int .i64 a0_0) := (blk_cell BK232.out 0).trans rfl; have hcz16_1 : w15.cell? ⟨gb232, 1, none⟩ = some (.int .i64 a0_1) := (blk_cell BK232.out 1).trans rfl; have hcz16_2 : w15.cell? ⟨gb232, 2, none⟩ = some (.string a0_2) := (blk_cell BK232.out 2).trans rfl; have hcz16_3 : w15.cell? ⟨gb232, 3, none⟩ = some (.bool a0_3) := (blk_cell BK232.out 3).trans rfl; have hfz16_0 := blk_frozen BK232.out 0; have hfz16_1 := blk_frozen BK232.out 1; have hfz16_2 := blk_frozen BK232.out 2; have hfz16_3 := blk_frozen BK232.out 3))
        go_ret
        exact ⟨by first | rfl | (simp [errW_none, errW_some] <;> rfl) | (simp [*, errW_none, errW_some] <;> rfl), hbT HB.out⟩
    · rw [if_neg c8] at H
      have c8b0 : (a0_0 == 2) = false := beq_eq_false_iff_ne.mpr c8
      have c8b1 : (a0_0 != 2) = true := bne_iff_ne.mpr c8
      by_cases c17 : a0_0 = 3
      · rw [if_pos c17] at H
        have c17b0 : (a0_0 == 3) = true := beq_iff_eq.mpr c17
        have c17b1 : (a0_0 != 3) = false := bne_eq_false_iff_eq.mpr c17
        clear c17
        by_cases c18 : a0_1 = 0
        · rw [if_pos c18] at H
          have c18b0 : (a0_1 == 0) = true := beq_iff_eq.mpr c18
          have c18b1 : (a0_1 != 0) = false := bne_eq_false_iff_eq.mpr c18
          clear c18
          obtain rfl := Option.some.inj H
          go_enter Tryd.func12, Tryd.ntmps12
          go_wp2_with (first | ((with_reducible refine gate_dst (N := 1) rfl ?_); (try (refine gate_guard (by rfl) ?_; dsimp only)); refine box_event ?hg (N := 1) ?hd (cs := #[.int .i64 a0_0, .int .i64 a0_1, .string a0_2, .bool a0_3]) (t := 26) ?hr ?_; (case hd => rfl); (case hg => rfl); (case hr => first | (go_simp; done) | (go_simp; rfl)); intro gb232 hg w19 hbox hb; have BK232 := Aside0.mk hbox; have GW232 := geA hg HB; have GE232 := geA hg HB; replace HB := bsA HB hb; clear hb hbox hg; have hcz20_0 : w19.cell? ⟨gb232, 0, none⟩ = some (.int .i64 a0_0) := (blk_cell BK232.out 0).trans rfl; have hcz20_1 : w19.cell? ⟨gb232, 1, none⟩ = some (.int .i64 a0_1) := (blk_cell BK232.out 1).trans rfl; have hcz20_2 : w19.cell? ⟨gb232, 2, none⟩ = some (.string a0_2) := (blk_cell BK232.out 2).trans rfl; have hcz20_3 : w19.cell? ⟨gb232, 3, none⟩ = some (.bool a0_3) := (blk_cell BK232.out 3).trans rfl; have hfz20_0 := blk_frozen BK232.out 0; have hfz20_1 := blk_frozen BK232.out 1; have hfz20_2 := blk_frozen BK232.out 2; have hfz20_3 := blk_frozen BK232.out 3))
          go_ret
          exact ⟨by first | rfl | (simp [errW_none, errW_some] <;> rfl) | (simp [*, errW_none, errW_some] <;> rfl), hbT HB.out⟩
        · rw [if_neg c18] at H
          have c18b0 : (a0_1 == 0) = false := beq_eq_false_iff_ne.mpr c18
          have c18b1 : (a0_1 != 0) = true := bne_iff_ne.mpr c18
          obtain rfl := Option.some.inj H
          go_enter Tryd.func12, Tryd.ntmps12
          go_wp2_with (first | ((with_reducible refine gate_dst (N := 1) rfl ?_); (try (refine gate_guard (by rfl) ?_; dsimp only)); refine box_event ?hg (N := 1) ?hd (cs := #[.int .i64 a0_0, .int .i64 a0_1, .string a0_2, .bool a0_3]) (t := 26) ?hr ?_; (case hd => rfl); (case hg => rfl); (case hr => first | (go_simp; done) | (go_simp; rfl)); intro gb232 hg w21 hbox hb; have BK232 := Aside0.mk hbox; have GW232 := geA hg HB; have GE232 := geA hg HB; replace HB := bsA HB hb; clear hb hbox hg; have hcz22_0 : w21.cell? ⟨gb232, 0, none⟩ = some (.int .i64 a0_0) := (blk_cell BK232.out 0).trans rfl; have hcz22_1 : w21.cell? ⟨gb232, 1, none⟩ = some (.int .i64 a0_1) := (blk_cell BK232.out 1).trans rfl; have hcz22_2 : w21.cell? ⟨gb232, 2, none⟩ = some (.string a0_2) := (blk_cell BK232.out 2).trans rfl; have hcz22_3 : w21.cell? ⟨gb232, 3, none⟩ = some (.bool a0_3) := (blk_cell BK232.out 3).trans rfl; have hfz22_0 := blk_frozen BK232.out 0; have hfz22_1 := blk_frozen BK232.out 1; have hfz22_2 := blk_frozen BK232.out 2; have hfz22_3 := blk_frozen BK232.out 3))
          go_ret
          exact ⟨by first | rfl | (simp [errW_none, errW_some] <;> rfl) | (simp [*, errW_none, errW_some] <;> rfl), hbT HB.out⟩
      · rw [if_neg c17] at H
        have c17b0 : (a0_0 == 3) = false := beq_eq_false_iff_ne.mpr c17
        have c17b1 : (a0_0 != 3) = true := bne_iff_ne.mpr c17
        obtain rfl := Option.some.inj H
        go_enter Tryd.func12, Tryd.ntmps12
        go_wp2_with (first | ((with_reducible refine gate_dst (N := 1) rfl ?_); (try (refine gate_guard (by rfl) ?_; dsimp only)); refine box_event ?hg (N := 1) ?hd (cs := #[.int .i64 a0_0, .int .i64 a0_1, .string a0_2, .bool a0_3]) (t := 26) ?hr ?_; (case hd => rfl); (case hg => rfl); (case hr => first | (go_simp; done) | (go_simp; rfl)); intro gb232 hg w23 hbox hb; have BK232 := Aside0.mk hbox; have GW232 := geA hg HB; have GE232 := geA hg HB; replace HB := bsA HB hb; clear hb hbox hg; have hcz24_0 : w23.cell? ⟨gb232, 0, none⟩ = some (.int .i64 a0_0) := (blk_cell BK232.out 0).trans rfl; have hcz24_1 : w23.cell? ⟨gb232, 1, none⟩ = some (.int .i64 a0_1) := (blk_cell BK232.out 1).trans rfl; have hcz24_2 : w23.cell? ⟨gb232, 2, none⟩ = some (.string a0_2) := (blk_cell BK232.out 2).trans rfl; have hcz24_3 : w23.cell? ⟨gb232, 3, none⟩ = some (.bool a0_3) := (blk_cell BK232.out 3).trans rfl; have hfz24_0 := blk_frozen BK232.out 0; have hfz24_1 := blk_frozen BK232.out 1; have hfz24_2 := blk_frozen BK232.out 2; have hfz24_3 := blk_frozen BK232.out 3))
        go_ret
        exact ⟨by first | rfl | (simp [errW_none, errW_some] <;> rfl) | (simp [*, errW_none, errW_some] <;> rfl), hbT HB.out⟩

/-! ### refrainref1_digits: function 33 -/
def refrainref1_digits.l0 : Nat → Int → ByteArray → Option (ByteArray)
  | 0, _, _ => none
  | k + 1, x0, x3 => if x0 ≥ 10 then ((some (([(IntKind.u64.wrap (48 + (Int.tmod x0 10))) % 256] : List Int) : List Int)).bind fun y233 => (if (strOfNums y233).size + x3.size ≤ 9223372036854775807 then (refrainref1_digits.l0 k (IntKind.u64.wrap (Int.tdiv x0 10)) ((strOfNums y233) ++ x3)) else (none))) else ((some (([(IntKind.u64.wrap (48 + x0)) % 256] : List Int) : List Int)).bind fun y236 => (if (strOfNums y236).size + x3.size ≤ 9223372036854775807 then (some ((strOfNums y236) ++ x3)) else (none)))
def refrainref1_digits.f (k : Nat) (a0 : Int) : Option (ByteArray) := refrainref1_digits.l0 k a0 (⟨#[]⟩ : ByteArray)
set_option maxRecDepth 100000 in
theorem refrainref1_digits.l0_zero : ∀ y0 y1, refrainref1_digits.l0 0 y0 y1 = none := fun _ _ => rfl
set_option maxRecDepth 100000 in
theorem refrainref1_digits.mono_l : ∀ k, (∀ y0 y1, LeO (refrainref1_digits.l0 k y0 y1) (refrainref1_digits.l0 (k + 1) y0 y1))
  | 0 => fun _ _ r h => by (unfold refrainref1_digits.l0 at h; cases h)
  | k + 1 => by
    have ih0 := refrainref1_digits.mono_l k
    · intro y0 y1
      unfold refrainref1_digits.l0
      repeat' first
      | (with_reducible exact ih0 _ _)
      | (with_reducible exact LeO.refl _)
      | (with_reducible exact LeO.none _)
      | (with_reducible refine LeO.ite ?_ ?_)
      | (with_reducible refine LeO.bind ?_ (fun _ => ?_))
      | exact ih0 _ _
      | exact LeO.none _
      | refine LeO.ite ?_ ?_
      | refine LeO.bind ?_ (fun _ => ?_)
set_option maxRecDepth 100000 in
theorem refrainref1_digits.mono : ∀ a0 k, LeO (refrainref1_digits.f k a0) (refrainref1_digits.f (k + 1) a0) := by
  intro a0 k
  have ih0 := refrainref1_digits.mono_l k
  unfold refrainref1_digits.f
  repeat' first
      | (with_reducible exact ih0 _ _)
      | (with_reducible exact LeO.refl _)
      | (with_reducible exact LeO.none _)
      | (with_reducible refine LeO.ite ?_ ?_)
      | (with_reducible refine LeO.bind ?_ (fun _ => ?_))
      | exact ih0 _ _
      | exact LeO.none _
      | refine LeO.ite ?_ ?_
      | refine LeO.bind ?_ (fun _ => ?_)
set_option maxHeartbeats 8000000 in
set_option maxRecDepth 100000 in
theorem refrainref1_digits.calls (k : Nat) (a0 : Int) (r : ByteArray) (w : World) (h : refrainref1_digits.f k a0 = some r) :
    Calls Tryd.prog 33 #[.int .u64 a0] w fun e w' => e = .returned (.string r) ∧ Below w.heap.size w w' := by
  have HB := Aside0.mk (Below.refl w.heap.size w)
  have H : (refrainref1_digits.l0 k a0 (⟨#[]⟩ : ByteArray)) = some r := h
  clear h
  have H' := Aside0.mk H
  clear H
  go_enter Tryd.func33, Tryd.ntmps33
  go_wp2
  go_loopg [0, 3] k (fun kq v0 v3 w' => ∃ (x0_1 : Int) (x3_1 : ByteArray), v0 = .int .u64 x0_1 ∧ v3 = .string x3_1 ∧ Aside0 (refrainref1_digits.l0 kq x0_1 x3_1 = some r) ∧ Aside0 (kq ≤ k) ∧ Aside0 (Below w.heap.size w w'))
  case atStart => exact ⟨(a0), ((⟨#[]⟩ : ByteArray)), (by first | rfl | (simp; done) | (simp [*]; done) | (simp; unfold wrap64; omega) | (congr 1; (try rw [Bool.eq_iff_iff]); simp [List.isEmpty_iff]; done)), (by first | rfl | (simp; done) | (simp [*]; done) | (simp; unfold wrap64; omega) | (congr 1; (try rw [Bool.eq_iff_iff]); simp [List.isEmpty_iff]; done)), H', ⟨Nat.le_refl _⟩, ⟨hbT HB.out⟩⟩
  case round =>
    clear H'
    obtain ⟨x0_1, x3_1, rfl, rfl, HA, HK1, HB⟩ := hrel
    cases gk with
    | zero => (have HA2 := HA.out; clear HA; revert HA2; rw [refrainref1_digits.l0_zero]; intro h_; cases h_)
    | succ k1 =>
      have H := HA.out
      clear HA
      simp only [refrainref1_digits.l0] at H
      by_cases c2 : x0_1 ≥ 10
      · rw [if_pos c2] at H
        have c2b0 : decide (10 ≤ x0_1) = true := decide_eq_true c2
        clear c2
        obtain ⟨y233, hy233⟩ : ∃ y_ : List Int, y_ = (([(IntKind.u64.wrap (48 + (Int.tmod x0_1 10))) % 256] : List Int)) := ⟨_, rfl⟩
        replace H : (if (strOfNums y233).size + x3_1.size ≤ 9223372036854775807 then (refrainref1_digits.l0 k1 (IntKind.u64.wrap (Int.tdiv x0_1 10)) ((strOfNums y233) ++ x3_1)) else (none)) = some r := by first | (rw [hy233]; with_reducible exact H) | (have H2_ := (Option.bind_some _ _).symm.trans H; rw [hy233]; with_reducible exact H2_) | (have H2_ := (Option.bind_some _ _).symm.trans H; with_reducible exact H2_) | with_reducible exact H | (rw [hy233]; exact H) | exact H
        have Ny233 := Aside0.mk hy233
        clear hy233
        by_cases c3 : (strOfNums y233).size + x3_1.size ≤ 9223372036854775807
        · rw [if_pos c3] at H
          have c3b0 := eq_true c3
          have c3b1 : decide ((strOfNums y233).size + x3_1.size ≤ 9223372036854775807) = true := decide_eq_true c3
          try have c3b2 : (9223372036854775807 < (strOfNums y233).size + x3_1.size) = False := eq_false (Nat.not_lt.2 c3)
          have H' := Aside0.mk H
          clear H
          go_wp2_with (first | ((with_reducible refine gate_dst (N := 10) rfl ?_); refine Kd.R_lit (Kd.int .u8) _ 5 ?hg (N := 10) ?hd (xs := ([(IntKind.u64.wrap (48 + (Int.tmod x0_1 10))) % 256] : List Int)) (inner := [.int .u8 ((IntKind.u64.wrap (48 + (Int.tmod x0_1 10))) % 256)]) (ok := fun _ => True) (okp := fun _ => True) ?hr ?hp (fun _ hk => hk) trivial (Below.refl _ _) (Nat.le_refl _) (by simp) ?_; (case hd => rfl); (case hg => rfl); (case hr => first | (go_simp; done) | (go_simp; rfl)); (case hp => exact (Reps.one (show Kd.M (Kd.int .u8) _ _ _ ((IntKind.u64.wrap (48 + (Int.tmod x0_1 10))) % 256) [.int .u8 ((IntKind.u64.wrap (48 + (Int.tmod x0_1 10))) % 256)] from rfl) (Reps.none _ _))); intro v234 w4 ho5 hb hg_ hnew_; clear hg_ hnew_; (first | rw [← Ny233.out] at ho5 | (simp only [Int.reduceToNat] at ho5; rw [← Ny233.out] at ho5)); have HO235 := Aside0.mk (Kd.R_lower ho5 (below_size (hbT HB.out))); replace HB := bsA HB hb; clear hb ho5; have hcv6 := own_string (P := Tryd.prog) Tryd.underlying70 Tryd.underlying5 Tryd.underlying9 (Kd.own_of_R HO235.out)))
          go_roundg k1
          case measure => have := HK1.out; omega
          case rel => exact ⟨(IntKind.u64.wrap (Int.tdiv x0_1 10)), ((strOfNums y233) ++ x3_1), (by first | rfl | (simp; done) | (simp [*]; done) | (simp; unfold wrap64; omega) | (congr 1; (try rw [Bool.eq_iff_iff]); simp [List.isEmpty_iff]; done)), (by first | rfl | (simp; done) | (simp [*]; done) | (simp; unfold wrap64; omega) | (congr 1; (try rw [Bool.eq_iff_iff]); simp [List.isEmpty_iff]; done)), H', ⟨by have := HK1.out; omega⟩, ⟨hbT HB.out⟩⟩
        · rw [if_neg c3] at H
          exact absurd H (by simp)
      · rw [if_neg c2] at H
        have c2b0 : decide (10 ≤ x0_1) = false := decide_eq_false c2
        clear c2
        obtain ⟨y236, hy236⟩ : ∃ y_ : List Int, y_ = (([(IntKind.u64.wrap (48 + x0_1)) % 256] : List Int)) := ⟨_, rfl⟩
        replace H : (if (strOfNums y236).size + x3_1.size ≤ 9223372036854775807 then (some ((strOfNums y236) ++ x3_1)) else (none)) = some r := by first | (rw [hy236]; with_reducible exact H) | (have H2_ := (Option.bind_some _ _).symm.trans H; rw [hy236]; with_reducible exact H2_) | (have H2_ := (Option.bind_some _ _).symm.trans H; with_reducible exact H2_) | with_reducible exact H | (rw [hy236]; exact H) | exact H
        have Ny236 := Aside0.mk hy236
        clear hy236
        by_cases c7 : (strOfNums y236).size + x3_1.size ≤ 9223372036854775807
        · rw [if_pos c7] at H
          have c7b0 := eq_true c7
          have c7b1 : decide ((strOfNums y236).size + x3_1.size ≤ 9223372036854775807) = true := decide_eq_true c7
          try have c7b2 : (9223372036854775807 < (strOfNums y236).size + x3_1.size) = False := eq_false (Nat.not_lt.2 c7)
          obtain rfl := Option.some.inj H
          go_wp2_with (first | ((with_reducible refine gate_dst (N := 19) rfl ?_); refine Kd.R_lit (Kd.int .u8) _ 5 ?hg (N := 19) ?hd (xs := ([(IntKind.u64.wrap (48 + x0_1)) % 256] : List Int)) (inner := [.int .u8 ((IntKind.u64.wrap (48 + x0_1)) % 256)]) (ok := fun _ => True) (okp := fun _ => True) ?hr ?hp (fun _ hk => hk) trivial (Below.refl _ _) (Nat.le_refl _) (by simp) ?_; (case hd => rfl); (case hg => rfl); (case hr => first | (go_simp; done) | (go_simp; rfl)); (case hp => exact (Reps.one (show Kd.M (Kd.int .u8) _ _ _ ((IntKind.u64.wrap (48 + x0_1)) % 256) [.int .u8 ((IntKind.u64.wrap (48 + x0_1)) % 256)] from rfl) (Reps.none _ _))); intro v237 w8 ho9 hb hg_ hnew_; clear hg_ hnew_; (first | rw [← Ny236.out] at ho9 | (simp only [Int.reduceToNat] at ho9; rw [← Ny236.out] at ho9)); have HO238 := Aside0.mk (Kd.R_lower ho9 (below_size (hbT HB.out))); replace HB := bsA HB hb; clear hb ho9; have hcv10 := own_string (P := Tryd.prog) Tryd.underlying70 Tryd.underlying5 Tryd.underlying9 (Kd.own_of_R HO238.out)))
          go_ret
          exact ⟨by first | rfl | (simp [errW_none, errW_some] <;> rfl) | (simp [*, errW_none, errW_some] <;> rfl), hbT HB.out⟩
        · rw [if_neg c7] at H
          exact absurd H (by simp)

/-! ### refrainref1_Hex: function 59 -/
def refrainref1_Hex.f (a0 : Int) : Option (Int) := if a0 < 10 then (some ((wrap64 (48 + a0)) % 256)) else (some ((wrap64 ((wrap64 (97 + a0)) - 10)) % 256))
set_option maxHeartbeats 8000000 in
set_option maxRecDepth 100000 in
theorem refrainref1_Hex.calls (a0 : Int) (r : Int) (w : World) (h : refrainref1_Hex.f a0 = some r) :
    Calls Tryd.prog 59 #[.int .i64 a0] w fun e w' => e = .returned (.int .u8 r) ∧ Drawn0 w w' := by
  have H : (if a0 < 10 then (some ((wrap64 (48 + a0)) % 256)) else (some ((wrap64 ((wrap64 (97 + a0)) - 10)) % 256))) = some r := h
  clear h
  by_cases c2 : a0 < 10
  · rw [if_pos c2] at H
    have c2b0 : decide (a0 < 10) = true := decide_eq_true c2
    clear c2
    obtain rfl := Option.some.inj H
    go_enter Tryd.func59, Tryd.ntmps59
    go_wp2
    go_ret
    exact ⟨by first | rfl | (simp; done) | (simp [*]; done) | (simp; unfold wrap64; omega) | (congr 1; (try rw [Bool.eq_iff_iff]); simp [List.isEmpty_iff]; done), by repeat (first | exact Drawn0.refl _ | apply Drawn0.step)⟩
  · rw [if_neg c2] at H
    have c2b0 : decide (a0 < 10) = false := decide_eq_false c2
    clear c2
    obtain rfl := Option.some.inj H
    go_enter Tryd.func59, Tryd.ntmps59
    go_wp2
    go_ret
    exact ⟨by first | rfl | (simp; done) | (simp [*]; done) | (simp; unfold wrap64; omega) | (congr 1; (try rw [Bool.eq_iff_iff]); simp [List.isEmpty_iff]; done), by repeat (first | exact Drawn0.refl _ | apply Drawn0.step)⟩

end Go.Proofs.YthhpeeckiggpaaaDoor.Pr

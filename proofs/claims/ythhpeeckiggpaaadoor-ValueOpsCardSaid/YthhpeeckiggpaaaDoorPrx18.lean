-- printed by a patched copy of the kit's print, for this seat
import Derived.Test.YthhpeeckiggpaaaDoorPrx0
import Derived.Test.YthhpeeckiggpaaaDoorPrx8
import Derived.Test.YthhpeeckiggpaaaDoorPrx16
namespace Go.Proofs.YthhpeeckiggpaaaDoor.Pr
open Go.RowKit Go.Proofs.YthhpeeckiggpaaaDoorW.PrintWords Go.Proofs.YthhpeeckiggpaaaDoorW.PrintLast Go.Proofs.YthhpeeckiggpaaaDoorW.PrintMore
attribute [local go_sem] max2_int min2_int max_two min_two max_three min_three max_four min_four   -- for this text's walks alone
attribute [local go_sem high] Go.Proofs.YthhpeeckiggpaaaDoor.isSome_setCell
set_option maxRecDepth 100000
set_option linter.unusedVariables false
set_option linter.unusedSimpArgs false

/-! ### refrainref1_Unary: function 23 -/
mutual
def refrainref1_Unary.j0 : Nat → Int → Bool → Int → Int → ByteArray → Bool → Option (Int × Int × ByteArray × Bool × Int)
  | 0, _, _, _, _, _, _ => none
  | k + 1, x0, x12, x417000, x417001, x417002, x417003 => if x12 = true then (some (0, 0, (⟨#[]⟩ : ByteArray), false, 11)) else ((refrainref1_Valid.f x417000 x417001 x417002 x417003).bind fun t418 => (if t418 = true then (if x0 = 1 then (refrainref1_Unary.j1 k x0 (x417000 == 1) x417000 x417001 x417002 x417003) else (refrainref1_Unary.j1 k x0 false x417000 x417001 x417002 x417003)) else (some (0, 0, (⟨#[]⟩ : ByteArray), false, 12))))
def refrainref1_Unary.j1 : Nat → Int → Bool → Int → Int → ByteArray → Bool → Option (Int × Int × ByteArray × Bool × Int)
  | 0, _, _, _, _, _, _ => none
  | k + 1, x0, x19, x417000, x417001, x417002, x417003 => if x19 = true then ((refrainref1_number.f (IntKind.u64.wrap (-(IntKind.u64.wrap (x417001))))).bind fun bt419 => (some (bt419.1, bt419.2.1, bt419.2.2.1, bt419.2.2.2, 0))) else (if x0 = 2 then (if x417000 = 3 then ((refrainref1_truth.f (!x417003)).bind fun bt423 => (some (bt423.1, bt423.2.1, bt423.2.2.1, bt423.2.2.2, 0))) else (some (0, 0, (⟨#[]⟩ : ByteArray), false, 10))) else (some (0, 0, (⟨#[]⟩ : ByteArray), false, 10)))
end
def refrainref1_Unary.f (k : Nat) (a0 : Int) (a1_0 : Int) (a1_1 : Int) (a1_2 : ByteArray) (a1_3 : Bool) : Option (Int × Int × ByteArray × Bool × Int) := if a0 = 1 then (refrainref1_Unary.j0 k a0 false a1_0 a1_1 a1_2 a1_3) else (refrainref1_Unary.j0 k a0 (a0 != 2) a1_0 a1_1 a1_2 a1_3)
set_option maxRecDepth 100000 in
theorem refrainref1_Unary.j0_zero : ∀ y0 y1 y2 y3 y4 y5, refrainref1_Unary.j0 0 y0 y1 y2 y3 y4 y5 = none := fun _ _ _ _ _ _ => rfl
set_option maxRecDepth 100000 in
theorem refrainref1_Unary.j1_zero : ∀ y0 y1 y2 y3 y4 y5, refrainref1_Unary.j1 0 y0 y1 y2 y3 y4 y5 = none := fun _ _ _ _ _ _ => rfl
set_option maxRecDepth 100000 in
theorem refrainref1_Unary.mono_l : ∀ k, (∀ y0 y1 y2 y3 y4 y5, LeO (refrainref1_Unary.j0 k y0 y1 y2 y3 y4 y5) (refrainref1_Unary.j0 (k + 1) y0 y1 y2 y3 y4 y5)) ∧ (∀ y0 y1 y2 y3 y4 y5, LeO (refrainref1_Unary.j1 k y0 y1 y2 y3 y4 y5) (refrainref1_Unary.j1 (k + 1) y0 y1 y2 y3 y4 y5))
  | 0 => ⟨fun _ _ _ _ _ _ r h => by (unfold refrainref1_Unary.j0 at h; cases h), fun _ _ _ _ _ _ r h => by (unfold refrainref1_Unary.j1 at h; cases h)⟩
  | k + 1 => by
    obtain ⟨ih0, ih1⟩ := refrainref1_Unary.mono_l k
    refine ⟨?_, ?_⟩
    · intro y0 y1 y2 y3 y4 y5
      unfold refrainref1_Unary.j0
      repeat' first
      | (with_reducible exact ih0 _ _ _ _ _ _)
      | (with_reducible exact ih1 _ _ _ _ _ _)
      | (with_reducible exact LeO.refl _)
      | (with_reducible exact LeO.none _)
      | (with_reducible refine LeO.ite ?_ ?_)
      | (with_reducible refine LeO.bind ?_ (fun _ => ?_))
      | exact ih0 _ _ _ _ _ _
      | exact ih1 _ _ _ _ _ _
      | exact LeO.none _
      | refine LeO.ite ?_ ?_
      | refine LeO.bind ?_ (fun _ => ?_)
    · intro y0 y1 y2 y3 y4 y5
      unfold refrainref1_Unary.j1
      repeat' first
      | (with_reducible exact ih0 _ _ _ _ _ _)
      | (with_reducible exact ih1 _ _ _ _ _ _)
      | (with_reducible exact LeO.refl _)
      | (with_reducible exact LeO.none _)
      | (with_reducible refine LeO.ite ?_ ?_)
      | (with_reducible refine LeO.bind ?_ (fun _ => ?_))
      | exact ih0 _ _ _ _ _ _
      | exact ih1 _ _ _ _ _ _
      | exact LeO.none _
      | refine LeO.ite ?_ ?_
      | refine LeO.bind ?_ (fun _ => ?_)
set_option maxRecDepth 100000 in
theorem refrainref1_Unary.mono : ∀ a0 a1 a2 a3 a4 k, LeO (refrainref1_Unary.f k a0 a1 a2 a3 a4) (refrainref1_Unary.f (k + 1) a0 a1 a2 a3 a4) := by
  intro a0 a1 a2 a3 a4 k
  obtain ⟨ih0, ih1⟩ := refrainref1_Unary.mono_l k
  unfold refrainref1_Unary.f
  repeat' first
      | (with_reducible exact ih0 _ _ _ _ _ _)
      | (with_reducible exact ih1 _ _ _ _ _ _)
      | (with_reducible exact LeO.refl _)
      | (with_reducible exact LeO.none _)
      | (with_reducible refine LeO.ite ?_ ?_)
      | (with_reducible refine LeO.bind ?_ (fun _ => ?_))
      | exact ih0 _ _ _ _ _ _
      | exact ih1 _ _ _ _ _ _
      | exact LeO.none _
      | refine LeO.ite ?_ ?_
      | refine LeO.bind ?_ (fun _ => ?_)
set_option maxHeartbeats 8000000 in
set_option maxRecDepth 100000 in
theorem refrainref1_Unary.calls (k : Nat) (a0 : Int) (a1_0 : Int) (a1_1 : Int) (a1_2 : ByteArray) (a1_3 : Bool) (r1 : Int) (r2 : Int) (r3 : ByteArray) (r4 : Bool) (r5 : Int) (w : World) (h : refrainref1_Unary.f k a0 a1_0 a1_1 a1_2 a1_3 = some (r1, r2, r3, r4, r5)) :
    Calls Tryd.prog 23 #[.int .i64 a0, .agg #[.int .i64 a1_0, .int .i64 a1_1, .string a1_2, .bool a1_3]] w fun e w' => e = .returned (.tuple #[.agg #[.int .i64 r1, .int .i64 r2, .string r3, .bool r4], .int .i64 r5]) ∧ Below w.heap.size w w' := by
  have hu26 := Tryd.underlying26
  have HB := Aside0.mk (Below.refl w.heap.size w)
  have H : (if a0 = 1 then (refrainref1_Unary.j0 k a0 false a1_0 a1_1 a1_2 a1_3) else (refrainref1_Unary.j0 k a0 (a0 != 2) a1_0 a1_1 a1_2 a1_3)) = some (r1, r2, r3, r4, r5) := h
  clear h
  have HC3 := Aside0.mk H
  clear H
  go_enter Tryd.func23, Tryd.ntmps23
  go_upto_region 1 with (first | ((with_reducible refine gate_dst (N := 3) rfl ?_); refine box_event ?hg (N := 3) ?hd (cs := #[.int .i64 a1_0, .int .i64 a1_1, .string a1_2, .bool a1_3]) (t := 26) ?hr ?_; (case hd => rfl); (case hg => rfl); (case hr => first | (go_simp; done) | (go_simp; rfl)); intro gb416 hg w4 hbox hb; have n0_ := Aside0.mk (below_step (by repeat (first | (with_reducible first | exact HB.out | apply below_alloc | apply pw_below_drewN | apply below_drew1) | exact HB.out)) hb); have n1_ := Aside0.mk (hbox); have n2_ := Aside0.mk ((by rw [hg]; exact (below_size (by repeat (first | (with_reducible first | exact HB.out | apply below_alloc | apply pw_below_drewN | apply below_drew1) | exact HB.out))) : w.heap.size ≤ gb416)); have n3_ := Aside0.mk ((by rw [hg]; exact (below_size (by repeat (first | (with_reducible first | exact HB.out | apply below_alloc | apply pw_below_drewN | apply below_drew1) | exact HB.out))) : w.heap.size ≤ gb416)); clear HB; have HB := n0_; have BK416 := n1_; have GW416 := n2_; have GE416 := n3_; clear n0_ n1_ n2_ n3_; clear hb hbox hg) | ((with_reducible refine gate_dst (N := 4) rfl ?_); refine box_event ?hg (N := 4) ?hd (cs := #[.int .i64 0, .int .i64 0, .string (⟨#[]⟩ : ByteArray), .bool false]) (t := 26) ?hr ?_; (case hd => rfl); (case hg => rfl); (case hr => first | (go_simp; done) | (go_simp; rfl)); intro gb417 hg w5 hbox hb; have n0_ := Aside0.mk (blk_below (g := gb416) (o := .cells #[.int .i64 a1_0, .int .i64 a1_1, .string a1_2, .bool a1_3] 26 (0, 0)) (by (with_reducible repeat (first | refine blk_drewN ?_ _ | refine blk_drew ?_ | refine blk_alloc ?_ _)); exact BK416.out) hb); have n1_ := Aside0.mk (below_step (by repeat (first | (with_reducible first | exact HB.out | apply below_alloc | apply pw_below_drewN | apply below_drew1 | refine below_set ?_ GE416.out) | exact HB.out)) hb); have n2_ := Aside0.mk (hbox); have n3_ := Aside0.mk ((by rw [hg]; exact (below_size (by repeat (first | (with_reducible first | exact HB.out | apply below_alloc | apply pw_below_drewN | apply below_drew1 | refine below_set ?_ GE416.out) | exact HB.out))) : w.heap.size ≤ gb417)); have n4_ := Aside0.mk ((by rw [hg]; exact (below_size (by repeat (first | (with_reducible first | exact HB.out | apply below_alloc | apply pw_below_drewN | apply below_drew1 | refine below_set ?_ GE416.out) | exact HB.out))) : w.heap.size ≤ gb417)); have n5_ := Aside0.mk ((by rw [hg]; exact Nat.ne_of_lt (blk_lt (g := gb416) (o := .cells #[.int .i64 a1_0, .int .i64 a1_1, .string a1_2, .bool a1_3] 26 (0, 0)) (by (with_reducible repeat (first | refine blk_drewN ?_ _ | refine blk_drew ?_ | refine blk_alloc ?_ _)); exact BK416.out)) : gb416 ≠ gb417)); have n6_ := Aside0.mk ((by rw [hg]; exact Nat.ne_of_gt (blk_lt (g := gb416) (o := .cells #[.int .i64 a1_0, .int .i64 a1_1, .string a1_2, .bool a1_3] 26 (0, 0)) (by (with_reducible repeat (first | refine blk_drewN ?_ _ | refine blk_drew ?_ | refine blk_alloc ?_ _)); exact BK416.out)) : gb417 ≠ gb416)); clear BK416; clear HB; have BK416 := n0_; have HB := n1_; have BK417 := n2_; have GW417 := n3_; have GE417 := n4_; have NB416_417 := n5_; have NB417_416 := n6_; clear n0_ n1_ n2_ n3_ n4_ n5_ n6_; clear hb hbox hg))
  (try simp only [Act.put, List.setIfInBounds_toArray, List.set_cons_zero, List.set_cons_succ])
  go_cut [12] (fun v12 wc => ∃ (kq : Nat) (x12_2 : Bool), v12 = .bool x12_2 ∧ Aside0 (refrainref1_Unary.j0 kq a0 x12_2 a1_0 a1_1 a1_2 a1_3 = some (r1, r2, r3, r4, r5)) ∧ Aside0 (kq ≤ k) ∧ Aside0 (wc.heap[gb416]? = some (.cells #[.int .i64 a1_0, .int .i64 a1_1, .string a1_2, .bool a1_3] 26 (0, 0))) ∧ Aside0 (wc.heap[gb417]? = some (.cells #[.int .i64 0, .int .i64 0, .string (⟨#[]⟩ : ByteArray), .bool false] 26 (0, 0))) ∧ Aside0 (Below w.heap.size w wc))
  case first =>
    have H := HC3.out
    clear HC3
    by_cases c6 : a0 = 1
    · rw [if_pos c6] at H
      have c6b0 : (a0 == 1) = true := beq_iff_eq.mpr c6
      have c6b1 : (a0 != 1) = false := bne_eq_false_iff_eq.mpr c6
      clear c6
      (first | rw [c6b0] | (simp only [i64_w, i32_w, IntKind.wrap_u8, IntKind.wrap_u16, IntKind.wrap_u32]; rw [c6b0]) | skip)
      have H' := Aside0.mk H
      clear H
      go_wp2
      go_meet
      case rel => exact ⟨_, (false), (by first | rfl | (simp; done) | (simp [*]; done) | (simp; unfold wrap64; omega)), H', ⟨by first | omega | exact Nat.le_refl _⟩, ⟨by (with_reducible repeat (first | refine blk_drewN ?_ _ | refine blk_drew ?_ | refine blk_alloc ?_ _)); exact BK416.out⟩, ⟨by (with_reducible repeat (first | refine blk_drewN ?_ _ | refine blk_drew ?_ | refine blk_alloc ?_ _)); exact BK417.out⟩, ⟨by repeat (first | (with_reducible first | exact HB.out | apply below_alloc | apply pw_below_drewN | apply below_drew1 | refine below_set ?_ GE416.out | refine below_set ?_ GE417.out) | exact HB.out)⟩⟩
    · rw [if_neg c6] at H
      have c6b0 : (a0 == 1) = false := beq_eq_false_iff_ne.mpr c6
      have c6b1 : (a0 != 1) = true := bne_iff_ne.mpr c6
      (first | rw [c6b0] | (simp only [i64_w, i32_w, IntKind.wrap_u8, IntKind.wrap_u16, IntKind.wrap_u32]; rw [c6b0]) | skip)
      have H' := Aside0.mk H
      clear H
      go_wp2
      go_meet
      case rel => exact ⟨_, ((a0 != 2)), (by first | rfl | (simp; done) | (simp [*]; done) | (simp; unfold wrap64; omega)), H', ⟨by first | omega | exact Nat.le_refl _⟩, ⟨by (with_reducible repeat (first | refine blk_drewN ?_ _ | refine blk_drew ?_ | refine blk_alloc ?_ _)); exact BK416.out⟩, ⟨by (with_reducible repeat (first | refine blk_drewN ?_ _ | refine blk_drew ?_ | refine blk_alloc ?_ _)); exact BK417.out⟩, ⟨by repeat (first | (with_reducible first | exact HB.out | apply below_alloc | apply pw_below_drewN | apply below_drew1 | refine below_set ?_ GE416.out | refine below_set ?_ GE417.out) | exact HB.out)⟩⟩
  case rest =>
    clear HC3
    try clear c2
    try clear p2
    try clear c6
    try clear c6b0
    try clear c6b1
    obtain ⟨kq, x12_2, rfl, HA, HJ2, BK416, BK417, HB⟩ := hcut
    cases kq with
    | zero => (have HA2 := HA.out; clear HA; revert HA2; rw [refrainref1_Unary.j0_zero]; intro h_; cases h_)
    | succ kj2 =>
      have H := HA.out
      clear HA
      simp only [refrainref1_Unary.j0] at H
      by_cases c7 : x12_2 = true
      · subst c7
        have H1 : (some (0, 0, (⟨#[]⟩ : ByteArray), false, 11)) = some (r1, r2, r3, r4, r5) := by rw [if_pos rfl] at H; exact H
        clear H
        have H := H1
        clear H1
        simp only [Option.some.injEq, Prod.mk.injEq] at H
        obtain ⟨rfl, rfl, rfl, rfl, rfl⟩ := H
        have hnb8 := NB417_416.out
        have hnc8 := NB416_417.out
        have hcz9_0 : wc.cell? ⟨gb417, 0, none⟩ = some (.int .i64 0) := (blk_cell BK417.out 0).trans rfl
        have hcz9_1 : wc.cell? ⟨gb417, 1, none⟩ = some (.int .i64 0) := (blk_cell BK417.out 1).trans rfl
        have hcz9_2 : wc.cell? ⟨gb417, 2, none⟩ = some (.string (⟨#[]⟩ : ByteArray)) := (blk_cell BK417.out 2).trans rfl
        have hcz9_3 : wc.cell? ⟨gb417, 3, none⟩ = some (.bool false) := (blk_cell BK417.out 3).trans rfl
        have hfz9_0 := blk_frozen BK417.out 0
        have hfz9_1 := blk_frozen BK417.out 1
        have hfz9_2 := blk_frozen BK417.out 2
        have hfz9_3 := blk_frozen BK417.out 3
        go_wp2
        refine bodyPost_ret (results_ct rfl _ _ gb417 26 #[.int .i64 0, .int .i64 0, .string (⟨#[]⟩ : ByteArray), .bool false] (0, 0) _ rfl (by (with_reducible repeat (first | refine blk_drewN ?_ _ | refine blk_drew ?_ | refine blk_alloc ?_ _)); refine blk_put (cs := #[.int .i64 0, .int .i64 0, .string (⟨#[]⟩ : ByteArray), .bool false]) ?_ 3 _ rfl; (with_reducible repeat (first | refine blk_drewN ?_ _ | refine blk_drew ?_ | refine blk_alloc ?_ _)); refine blk_put (cs := #[.int .i64 0, .int .i64 0, .string (⟨#[]⟩ : ByteArray), .bool false]) ?_ 2 _ rfl; (with_reducible repeat (first | refine blk_drewN ?_ _ | refine blk_drew ?_ | refine blk_alloc ?_ _)); refine blk_put (cs := #[.int .i64 0, .int .i64 0, .string (⟨#[]⟩ : ByteArray), .bool false]) ?_ 1 _ rfl; (with_reducible repeat (first | refine blk_drewN ?_ _ | refine blk_drew ?_ | refine blk_alloc ?_ _)); refine blk_put (cs := #[.int .i64 0, .int .i64 0, .string (⟨#[]⟩ : ByteArray), .bool false]) ?_ 0 _ rfl; (with_reducible repeat (first | refine blk_drewN ?_ _ | refine blk_drew ?_ | refine blk_alloc ?_ _)); exact BK417.out) Tryd.underlying26 rfl (by kernel_rfl)) rfl ?_
        exact ⟨by first | rfl | (simp [errW_none, errW_some] <;> rfl) | (simp [*, errW_none, errW_some] <;> rfl), by repeat (first | (with_reducible first | exact HB.out | apply below_alloc | apply pw_below_drewN | apply below_drew1 | refine below_set ?_ GE416.out | refine below_set ?_ GE417.out) | exact HB.out)⟩
      · replace c7 := Bool.eq_false_iff.mpr c7
        subst c7
        have H1 : ((refrainref1_Valid.f a1_0 a1_1 a1_2 a1_3).bind fun t418 => (if t418 = true then (if a0 = 1 then (refrainref1_Unary.j1 kj2 a0 (a1_0 == 1) a1_0 a1_1 a1_2 a1_3) else (refrainref1_Unary.j1 kj2 a0 false a1_0 a1_1 a1_2 a1_3)) else (some (0, 0, (⟨#[]⟩ : ByteArray), false, 12)))) = some (r1, r2, r3, r4, r5) := by rw [if_neg (show ¬ (false = true) by decide)] at H; exact H
        clear H
        have H := H1
        clear H1
        replace H := Option.bind_eq_some_iff.mp H
        obtain ⟨t418, A100, H⟩ := H
        replace H : (if t418 = true then (if a0 = 1 then (refrainref1_Unary.j1 kj2 a0 (a1_0 == 1) a1_0 a1_1 a1_2 a1_3) else (refrainref1_Unary.j1 kj2 a0 false a1_0 a1_1 a1_2 a1_3)) else (some (0, 0, (⟨#[]⟩ : ByteArray), false, 12))) = some (r1, r2, r3, r4, r5) := H
        have A10 := Aside0.mk A100
        clear A100
        by_cases c11 : t418 = true
        · subst c11
          have H1 : (if a0 = 1 then (refrainref1_Unary.j1 kj2 a0 (a1_0 == 1) a1_0 a1_1 a1_2 a1_3) else (refrainref1_Unary.j1 kj2 a0 false a1_0 a1_1 a1_2 a1_3)) = some (r1, r2, r3, r4, r5) := by rw [if_pos rfl] at H; exact H
          clear H
          have H := H1
          clear H1
          have HC12 := Aside0.mk H
          clear H
          have hnb13 := NB416_417.out
          have hnc13 := NB417_416.out
          have hcz14_0 : wc.cell? ⟨gb416, 0, none⟩ = some (.int .i64 a1_0) := (blk_cell BK416.out 0).trans rfl
          have hcz14_1 : wc.cell? ⟨gb416, 1, none⟩ = some (.int .i64 a1_1) := (blk_cell BK416.out 1).trans rfl
          have hcz14_2 : wc.cell? ⟨gb416, 2, none⟩ = some (.string a1_2) := (blk_cell BK416.out 2).trans rfl
          have hcz14_3 : wc.cell? ⟨gb416, 3, none⟩ = some (.bool a1_3) := (blk_cell BK416.out 3).trans rfl
          have hfz14_0 := blk_frozen BK416.out 0
          have hfz14_1 := blk_frozen BK416.out 1
          have hfz14_2 := blk_frozen BK416.out 2
          have hfz14_3 := blk_frozen BK416.out 3
          go_upto_region 6 with (first | ((with_reducible refine gate_callee (f := 12) rfl ?_); refine goesL_ (some 15) rfl rfl Tryd.func12 (by kernel_rfl) rfl #[.agg #[.int .i64 a1_0, .int .i64 a1_1, .string a1_2, .bool a1_3]] rfl (by (try simp only [List.map_toArray, List.map_cons, List.map_nil]); first | done | rfl | (simp only [List.length_drop, List.length_take]; rfl)) ?_; (with_reducible refine (refrainref1_Valid.calls a1_0 a1_1 a1_2 a1_3 true _ A10.out).mono ?_); rintro e w15 ⟨rfl, hb⟩; refine ⟨_, rfl, ?_⟩; have n0_ := Aside0.mk (blk_below (g := gb416) (o := .cells #[.int .i64 a1_0, .int .i64 a1_1, .string a1_2, .bool a1_3] 26 (0, 0)) (by (with_reducible repeat (first | refine blk_drewN ?_ _ | refine blk_drew ?_ | refine blk_alloc ?_ _)); exact BK416.out) hb); have n1_ := Aside0.mk (blk_below (g := gb417) (o := .cells #[.int .i64 0, .int .i64 0, .string (⟨#[]⟩ : ByteArray), .bool false] 26 (0, 0)) (by (with_reducible repeat (first | refine blk_drewN ?_ _ | refine blk_drew ?_ | refine blk_alloc ?_ _)); exact BK417.out) hb); have n2_ := Aside0.mk (below_step (by repeat (first | (with_reducible first | exact HB.out | apply below_alloc | apply pw_below_drewN | apply below_drew1 | refine below_set ?_ GE416.out | refine below_set ?_ GE417.out) | exact HB.out)) hb); clear BK416; clear BK417; clear HB; have BK416 := n0_; have BK417 := n1_; have HB := n2_; clear n0_ n1_ n2_; (try clear hb); (try clear hb2); (try clear hk); (try clear hi)))
          (try simp only [Act.put, List.setIfInBounds_toArray, List.set_cons_zero, List.set_cons_succ])
          go_cut [19] (fun v19 wc => ∃ (kq : Nat) (x19_11 : Bool), v19 = .bool x19_11 ∧ Aside0 (refrainref1_Unary.j1 kq a0 x19_11 a1_0 a1_1 a1_2 a1_3 = some (r1, r2, r3, r4, r5)) ∧ Aside0 (kq ≤ kj2) ∧ Aside0 (wc.heap[gb416]? = some (.cells #[.int .i64 a1_0, .int .i64 a1_1, .string a1_2, .bool a1_3] 26 (0, 0))) ∧ Aside0 (wc.heap[gb417]? = some (.cells #[.int .i64 0, .int .i64 0, .string (⟨#[]⟩ : ByteArray), .bool false] 26 (0, 0))) ∧ Aside0 (Below w.heap.size w wc))
          case first =>
            have H := HC12.out
            clear HC12
            by_cases c16 : a0 = 1
            · rw [if_pos c16] at H
              have c16b0 : (a0 == 1) = true := beq_iff_eq.mpr c16
              have c16b1 : (a0 != 1) = false := bne_eq_false_iff_eq.mpr c16
              clear c16
              (first | rw [c16b0] | (simp only [i64_w, i32_w, IntKind.wrap_u8, IntKind.wrap_u16, IntKind.wrap_u32]; rw [c16b0]) | skip)
              have H' := Aside0.mk H
              clear H
              have hnb17 := NB416_417.out
              have hnc17 := NB417_416.out
              have hcz18_0 : w15.cell? ⟨gb416, 0, none⟩ = some (.int .i64 a1_0) := (blk_cell BK416.out 0).trans rfl
              have hcz18_1 : w15.cell? ⟨gb416, 1, none⟩ = some (.int .i64 a1_1) := (blk_cell BK416.out 1).trans rfl
              have hcz18_2 : w15.cell? ⟨gb416, 2, none⟩ = some (.string a1_2) := (blk_cell BK416.out 2).trans rfl
              have hcz18_3 : w15.cell? ⟨gb416, 3, none⟩ = some (.bool a1_3) := (blk_cell BK416.out 3).trans rfl
              have hfz18_0 := blk_frozen BK416.out 0
              have hfz18_1 := blk_frozen BK416.out 1
              have hfz18_2 := blk_frozen BK416.out 2
              have hfz18_3 := blk_frozen BK416.out 3
              go_wp2
              go_meet
              case rel => exact ⟨_, ((a1_0 == 1)), (by first | rfl | (simp; done) | (simp [*]; done) | (simp; unfold wrap64; omega)), H', ⟨by have := HJ2.out; first | omega | exact Nat.le_refl _⟩, ⟨by (with_reducible repeat (first | refine blk_drewN ?_ _ | refine blk_drew ?_ | refine blk_alloc ?_ _)); exact BK416.out⟩, ⟨by (with_reducible repeat (first | refine blk_drewN ?_ _ | refine blk_drew ?_ | refine blk_alloc ?_ _)); exact BK417.out⟩, ⟨by repeat (first | (with_reducible first | exact HB.out | apply below_alloc | apply pw_below_drewN | apply below_drew1 | refine below_set ?_ GE416.out | refine below_set ?_ GE417.out) | exact HB.out)⟩⟩
            · rw [if_neg c16] at H
              have c16b0 : (a0 == 1) = false := beq_eq_false_iff_ne.mpr c16
              have c16b1 : (a0 != 1) = true := bne_iff_ne.mpr c16
              (first | rw [c16b0] | (simp only [i64_w, i32_w, IntKind.wrap_u8, IntKind.wrap_u16, IntKind.wrap_u32]; rw [c16b0]) | skip)
              have H' := Aside0.mk H
              clear H
              go_wp2
              go_meet
              case rel => exact ⟨_, (false), (by first | rfl | (simp; done) | (simp [*]; done) | (simp; unfold wrap64; omega)), H', ⟨by have := HJ2.out; first | omega | exact Nat.le_refl _⟩, ⟨by (with_reducible repeat (first | refine blk_drewN ?_ _ | refine blk_drew ?_ | refine blk_alloc ?_ _)); exact BK416.out⟩, ⟨by (with_reducible repeat (first | refine blk_drewN ?_ _ | refine blk_drew ?_ | refine blk_alloc ?_ _)); exact BK417.out⟩, ⟨by repeat (first | (with_reducible first | exact HB.out | apply below_alloc | apply pw_below_drewN | apply below_drew1 | refine below_set ?_ GE416.out | refine below_set ?_ GE417.out) | exact HB.out)⟩⟩
          case rest =>
            clear HC12
            try clear c1
            try clear c2
            try clear p2
            try clear c6
            try clear c6b0
            try clear c6b1
            try clear c7
            try clear c8
            try clear c11
            try clear c12
            try clear c13
            try clear c16
            try clear c16b0
            try clear c16b1
            try clear c17
            try clear hcz14_0
            try clear hcz14_1
            try clear hcz14_2
            try clear hcz14_3
            try clear hcz18_0
            try clear hcz18_1
            try clear hcz18_2
            try clear hcz18_3
            try clear hcz9_0
            try clear hcz9_1
            try clear hcz9_2
            try clear hcz9_3
            try clear hfz14_0
            try clear hfz14_1
            try clear hfz14_2
            try clear hfz14_3
            try clear hfz18_0
            try clear hfz18_1
            try clear hfz18_2
            try clear hfz18_3
            try clear hfz9_0
            try clear hfz9_1
            try clear hfz9_2
            try clear hfz9_3
            try clear p2
            obtain ⟨kq, x19_11, rfl, HA, HJ11, BK416, BK417, HB⟩ := hcut
            cases kq with
            | zero => (have HA2 := HA.out; clear HA; revert HA2; rw [refrainref1_Unary.j1_zero]; intro h_; cases h_)
            | succ kj11 =>
              have H := HA.out
              clear HA
              simp only [refrainref1_Unary.j1] at H
              by_cases c19 : x19_11 = true
              · subst c19
                have H1 : ((refrainref1_number.f (IntKind.u64.wrap (-(IntKind.u64.wrap (a1_1))))).bind fun bt419 => (some (bt419.1, bt419.2.1, bt419.2.2.1, bt419.2.2.2, 0))) = some (r1, r2, r3, r4, r5) := by rw [if_pos rfl] at H; exact H
                clear H
                have H := H1
                clear H1
                replace H := Option.bind_eq_some_iff.mp H
                obtain ⟨⟨t419, t420, t421, t422⟩, A200, H⟩ := H
                replace H : (some (t419, t420, t421, t422, 0)) = some (r1, r2, r3, r4, r5) := H
                have A20 := Aside0.mk A200
                clear A200
                simp only [Option.some.injEq, Prod.mk.injEq] at H
                obtain ⟨rfl, rfl, rfl, rfl, rfl⟩ := H
                have hnb21 := NB416_417.out
                have hnc21 := NB417_416.out
                have hcz22_0 : wc.cell? ⟨gb416, 0, none⟩ = some (.int .i64 a1_0) := (blk_cell BK416.out 0).trans rfl
                have hcz22_1 : wc.cell? ⟨gb416, 1, none⟩ = some (.int .i64 a1_1) := (blk_cell BK416.out 1).trans rfl
                have hcz22_2 : wc.cell? ⟨gb416, 2, none⟩ = some (.string a1_2) := (blk_cell BK416.out 2).trans rfl
                have hcz22_3 : wc.cell? ⟨gb416, 3, none⟩ = some (.bool a1_3) := (blk_cell BK416.out 3).trans rfl
                have hfz22_0 := blk_frozen BK416.out 0
                have hfz22_1 := blk_frozen BK416.out 1
                have hfz22_2 := blk_frozen BK416.out 2
                have hfz22_3 := blk_frozen BK416.out 3
                go_wp2_with (first | ((with_reducible refine gate_callee (f := 48) rfl ?_); refine goesL_ (some 31) rfl rfl Tryd.func48 (by kernel_rfl) rfl #[.int .u64 (IntKind.u64.wrap (-(IntKind.u64.wrap (a1_1))))] rfl (by (try simp only [List.map_toArray, List.map_cons, List.map_nil]); first | done | rfl | (simp only [List.length_drop, List.length_take]; rfl)) ?_; (with_reducible refine (refrainref1_number.calls (IntKind.u64.wrap (-(IntKind.u64.wrap (a1_1)))) t419 t420 t421 t422 _ A20.out).mono ?_); rintro e w23 ⟨rfl, hb⟩; refine ⟨_, rfl, ?_⟩; have n0_ := Aside0.mk (blk_below (g := gb416) (o := .cells #[.int .i64 a1_0, .int .i64 a1_1, .string a1_2, .bool a1_3] 26 (0, 0)) (by (with_reducible repeat (first | refine blk_drewN ?_ _ | refine blk_drew ?_ | refine blk_alloc ?_ _)); exact BK416.out) hb); have n1_ := Aside0.mk (blk_below (g := gb417) (o := .cells #[.int .i64 0, .int .i64 0, .string (⟨#[]⟩ : ByteArray), .bool false] 26 (0, 0)) (by (with_reducible repeat (first | refine blk_drewN ?_ _ | refine blk_drew ?_ | refine blk_alloc ?_ _)); exact BK417.out) hb); have n2_ := Aside0.mk (below_step (by repeat (first | (with_reducible first | exact HB.out | apply below_alloc | apply pw_below_drewN | apply below_drew1 | refine below_set ?_ GE416.out | refine below_set ?_ GE417.out) | exact HB.out)) hb); clear BK416; clear BK417; clear HB; have BK416 := n0_; have BK417 := n1_; have HB := n2_; clear n0_ n1_ n2_; (try clear hb); (try clear hb2); (try clear hk); (try clear hi); have hcz24_0 : w23.cell? ⟨gb417, 0, none⟩ = some (.int .i64 0) := (blk_cell BK417.out 0).trans rfl; have hcz24_1 : w23.cell? ⟨gb417, 1, none⟩ = some (.int .i64 0) := (blk_cell BK417.out 1).trans rfl; have hcz24_2 : w23.cell? ⟨gb417, 2, none⟩ = some (.string (⟨#[]⟩ : ByteArray)) := (blk_cell BK417.out 2).trans rfl; have hcz24_3 : w23.cell? ⟨gb417, 3, none⟩ = some (.bool false) := (blk_cell BK417.out 3).trans rfl; have hfz24_0 := blk_frozen BK417.out 0; have hfz24_1 := blk_frozen BK417.out 1; have hfz24_2 := blk_frozen BK417.out 2; have hfz24_3 := blk_frozen BK417.out 3))
                refine bodyPost_ret (results_ct rfl _ _ gb417 26 #[.int .i64 t419, .int .i64 t420, .string t421, .bool t422] (0, 0) _ rfl (by (with_reducible repeat (first | refine blk_drewN ?_ _ | refine blk_drew ?_ | refine blk_alloc ?_ _)); refine blk_put (cs := #[.int .i64 t419, .int .i64 t420, .string t421, .bool false]) ?_ 3 _ rfl; (with_reducible repeat (first | refine blk_drewN ?_ _ | refine blk_drew ?_ | refine blk_alloc ?_ _)); refine blk_put (cs := #[.int .i64 t419, .int .i64 t420, .string (⟨#[]⟩ : ByteArray), .bool false]) ?_ 2 _ rfl; (with_reducible repeat (first | refine blk_drewN ?_ _ | refine blk_drew ?_ | refine blk_alloc ?_ _)); refine blk_put (cs := #[.int .i64 t419, .int .i64 0, .string (⟨#[]⟩ : ByteArray), .bool false]) ?_ 1 _ rfl; (with_reducible repeat (first | refine blk_drewN ?_ _ | refine blk_drew ?_ | refine blk_alloc ?_ _)); refine blk_put (cs := #[.int .i64 0, .int .i64 0, .string (⟨#[]⟩ : ByteArray), .bool false]) ?_ 0 _ rfl; (with_reducible repeat (first | refine blk_drewN ?_ _ | refine blk_drew ?_ | refine blk_alloc ?_ _)); exact BK417.out) Tryd.underlying26 rfl (by kernel_rfl)) rfl ?_
                exact ⟨by first | rfl | (simp [errW_none, errW_some] <;> rfl) | (simp [*, errW_none, errW_some] <;> rfl), by repeat (first | (with_reducible first | exact HB.out | apply below_alloc | apply pw_below_drewN | apply below_drew1 | refine below_set ?_ GE416.out | refine below_set ?_ GE417.out) | exact HB.out)⟩
              · replace c19 := Bool.eq_false_iff.mpr c19
                subst c19
                have H1 : (if a0 = 2 then (if a1_0 = 3 then ((refrainref1_truth.f (!a1_3)).bind fun bt423 => (some (bt423.1, bt423.2.1, bt423.2.2.1, bt423.2.2.2, 0))) else (some (0, 0, (⟨#[]⟩ : ByteArray), false, 10))) else (some (0, 0, (⟨#[]⟩ : ByteArray), false, 10))) = some (r1, r2, r3, r4, r5) := by rw [if_neg (show ¬ (false = true) by decide)] at H; exact H
                clear H
                have H := H1
                clear H1
                by_cases c25 : a0 = 2
                · rw [if_pos c25] at H
                  have c25b0 : (a0 == 2) = true := beq_iff_eq.mpr c25
                  have c25b1 : (a0 != 2) = false := bne_eq_false_iff_eq.mpr c25
                  clear c25
                  by_cases c26 : a1_0 = 3
                  · rw [if_pos c26] at H
                    have c26b0 : (a1_0 == 3) = true := beq_iff_eq.mpr c26
                    have c26b1 : (a1_0 != 3) = false := bne_eq_false_iff_eq.mpr c26
                    clear c26
                    replace H := Option.bind_eq_some_iff.mp H
                    obtain ⟨⟨t423, t424, t425, t426⟩, A270, H⟩ := H
                    replace H : (some (t423, t424, t425, t426, 0)) = some (r1, r2, r3, r4, r5) := H
                    have A27 := Aside0.mk A270
                    clear A270
                    simp only [Option.some.injEq, Prod.mk.injEq] at H
                    obtain ⟨rfl, rfl, rfl, rfl, rfl⟩ := H
                    have hnb28 := NB416_417.out
                    have hnc28 := NB417_416.out
                    have hcz29_0 : wc.cell? ⟨gb416, 0, none⟩ = some (.int .i64 a1_0) := (blk_cell BK416.out 0).trans rfl
                    have hcz29_1 : wc.cell? ⟨gb416, 1, none⟩ = some (.int .i64 a1_1) := (blk_cell BK416.out 1).trans rfl
                    have hcz29_2 : wc.cell? ⟨gb416, 2, none⟩ = some (.string a1_2) := (blk_cell BK416.out 2).trans rfl
                    have hcz29_3 : wc.cell? ⟨gb416, 3, none⟩ = some (.bool a1_3) := (blk_cell BK416.out 3).trans rfl
                    have hfz29_0 := blk_frozen BK416.out 0
                    have hfz29_1 := blk_frozen BK416.out 1
                    have hfz29_2 := blk_frozen BK416.out 2
                    have hfz29_3 := blk_frozen BK416.out 3
                    go_wp2_with (first | ((with_reducible refine gate_callee (f := 47) rfl ?_); refine goesL_ (some 43) rfl rfl Tryd.func47 (by kernel_rfl) rfl #[.bool (!a1_3)] rfl (by (try simp only [List.map_toArray, List.map_cons, List.map_nil]); first | done | rfl | (simp only [List.length_drop, List.length_take]; rfl)) ?_; (with_reducible refine (refrainref1_truth.calls (!a1_3) t423 t424 t425 t426 _ A27.out).mono ?_); rintro e w30 ⟨rfl, hb⟩; refine ⟨_, rfl, ?_⟩; have n0_ := Aside0.mk (blk_below (g := gb416) (o := .cells #[.int .i64 a1_0, .int .i64 a1_1, .string a1_2, .bool a1_3] 26 (0, 0)) (by (with_reducible repeat (first | refine blk_drewN ?_ _ | refine blk_drew ?_ | refine blk_alloc ?_ _)); exact BK416.out) hb); have n1_ := Aside0.mk (blk_below (g := gb417) (o := .cells #[.int .i64 0, .int .i64 0, .string (⟨#[]⟩ : ByteArray), .bool false] 26 (0, 0)) (by (with_reducible repeat (first | refine blk_drewN ?_ _ | refine blk_drew ?_ | refine blk_alloc ?_ _)); exact BK417.out) hb); have n2_ := Aside0.mk (below_step (by repeat (first | (with_reducible first | exact HB.out | apply below_alloc | apply pw_below_drewN | apply below_drew1 | refine below_set ?_ GE416.out | refine below_set ?_ GE417.out) | exact HB.out)) hb); clear BK416; clear BK417; clear HB; have BK416 := n0_; have BK417 := n1_; have HB := n2_; clear n0_ n1_ n2_; (try clear hb); (try clear hb2); (try clear hk); (try clear hi); have hcz31_0 : w30.cell? ⟨gb417, 0, none⟩ = some (.int .i64 0) := (blk_cell BK417.out 0).trans rfl; have hcz31_1 : w30.cell? ⟨gb417, 1, none⟩ = some (.int .i64 0) := (blk_cell BK417.out 1).trans rfl; have hcz31_2 : w30.cell? ⟨gb417, 2, none⟩ = some (.string (⟨#[]⟩ : ByteArray)) := (blk_cell BK417.out 2).trans rfl; have hcz31_3 : w30.cell? ⟨gb417, 3, none⟩ = some (.bool false) := (blk_cell BK417.out 3).trans rfl; have hfz31_0 := blk_frozen BK417.out 0; have hfz31_1 := blk_frozen BK417.out 1; have hfz31_2 := blk_frozen BK417.out 2; have hfz31_3 := blk_frozen BK417.out 3))
                    refine bodyPost_ret (results_ct rfl _ _ gb417 26 #[.int .i64 t423, .int .i64 t424, .string t425, .bool t426] (0, 0) _ rfl (by (with_reducible repeat (first | refine blk_drewN ?_ _ | refine blk_drew ?_ | refine blk_alloc ?_ _)); refine blk_put (cs := #[.int .i64 t423, .int .i64 t424, .string t425, .bool false]) ?_ 3 _ rfl; (with_reducible repeat (first | refine blk_drewN ?_ _ | refine blk_drew ?_ | refine blk_alloc ?_ _)); refine blk_put (cs := #[.int .i64 t423, .int .i64 t424, .string (⟨#[]⟩ : ByteArray), .bool false]) ?_ 2 _ rfl; (with_reducible repeat (first | refine blk_drewN ?_ _ | refine blk_drew ?_ | refine blk_alloc ?_ _)); refine blk_put (cs := #[.int .i64 t423, .int .i64 0, .string (⟨#[]⟩ : ByteArray), .bool false]) ?_ 1 _ rfl; (with_reducible repeat (first | refine blk_drewN ?_ _ | refine blk_drew ?_ | refine blk_alloc ?_ _)); refine blk_put (cs := #[.int .i64 0, .int .i64 0, .string (⟨#[]⟩ : ByteArray), .bool false]) ?_ 0 _ rfl; (with_reducible repeat (first | refine blk_drewN ?_ _ | refine blk_drew ?_ | refine blk_alloc ?_ _)); exact BK417.out) Tryd.underlying26 rfl (by kernel_rfl)) rfl ?_
                    exact ⟨by first | rfl | (simp [errW_none, errW_some] <;> rfl) | (simp [*, errW_none, errW_some] <;> rfl), by repeat (first | (with_reducible first | exact HB.out | apply below_alloc | apply pw_below_drewN | apply below_drew1 | refine below_set ?_ GE416.out | refine below_set ?_ GE417.out) | exact HB.out)⟩
                  · rw [if_neg c26] at H
                    have c26b0 : (a1_0 == 3) = false := beq_eq_false_iff_ne.mpr c26
                    have c26b1 : (a1_0 != 3) = true := bne_iff_ne.mpr c26
                    simp only [Option.some.injEq, Prod.mk.injEq] at H
                    obtain ⟨rfl, rfl, rfl, rfl, rfl⟩ := H
                    have hnb32 := NB416_417.out
                    have hnc32 := NB417_416.out
                    have hcz33_0 : wc.cell? ⟨gb416, 0, none⟩ = some (.int .i64 a1_0) := (blk_cell BK416.out 0).trans rfl
                    have hcz33_1 : wc.cell? ⟨gb416, 1, none⟩ = some (.int .i64 a1_1) := (blk_cell BK416.out 1).trans rfl
                    have hcz33_2 : wc.cell? ⟨gb416, 2, none⟩ = some (.string a1_2) := (blk_cell BK416.out 2).trans rfl
                    have hcz33_3 : wc.cell? ⟨gb416, 3, none⟩ = some (.bool a1_3) := (blk_cell BK416.out 3).trans rfl
                    have hfz33_0 := blk_frozen BK416.out 0
                    have hfz33_1 := blk_frozen BK416.out 1
                    have hfz33_2 := blk_frozen BK416.out 2
                    have hfz33_3 := blk_frozen BK416.out 3
                    have hcz34_0 : wc.cell? ⟨gb417, 0, none⟩ = some (.int .i64 0) := (blk_cell BK417.out 0).trans rfl
                    have hcz34_1 : wc.cell? ⟨gb417, 1, none⟩ = some (.int .i64 0) := (blk_cell BK417.out 1).trans rfl
                    have hcz34_2 : wc.cell? ⟨gb417, 2, none⟩ = some (.string (⟨#[]⟩ : ByteArray)) := (blk_cell BK417.out 2).trans rfl
                    have hcz34_3 : wc.cell? ⟨gb417, 3, none⟩ = some (.bool false) := (blk_cell BK417.out 3).trans rfl
                    have hfz34_0 := blk_frozen BK417.out 0
                    have hfz34_1 := blk_frozen BK417.out 1
                    have hfz34_2 := blk_frozen BK417.out 2
                    have hfz34_3 := blk_frozen BK417.out 3
                    go_wp2
                    refine bodyPost_ret (results_ct rfl _ _ gb417 26 #[.int .i64 0, .int .i64 0, .string (⟨#[]⟩ : ByteArray), .bool false] (0, 0) _ rfl (by (with_reducible repeat (first | refine blk_drewN ?_ _ | refine blk_drew ?_ | refine blk_alloc ?_ _)); refine blk_put (cs := #[.int .i64 0, .int .i64 0, .string (⟨#[]⟩ : ByteArray), .bool false]) ?_ 3 _ rfl; (with_reducible repeat (first | refine blk_drewN ?_ _ | refine blk_drew ?_ | refine blk_alloc ?_ _)); refine blk_put (cs := #[.int .i64 0, .int .i64 0, .string (⟨#[]⟩ : ByteArray), .bool false]) ?_ 2 _ rfl; (with_reducible repeat (first | refine blk_drewN ?_ _ | refine blk_drew ?_ | refine blk_alloc ?_ _)); refine blk_put (cs := #[.int .i64 0, .int .i64 0, .string (⟨#[]⟩ : ByteArray), .bool false]) ?_ 1 _ rfl; (with_reducible repeat (first | refine blk_drewN ?_ _ | refine blk_drew ?_ | refine blk_alloc ?_ _)); refine blk_put (cs := #[.int .i64 0, .int .i64 0, .string (⟨#[]⟩ : ByteArray), .bool false]) ?_ 0 _ rfl; (with_reducible repeat (first | refine blk_drewN ?_ _ | refine blk_drew ?_ | refine blk_alloc ?_ _)); exact BK417.out) Tryd.underlying26 rfl (by kernel_rfl)) rfl ?_
                    exact ⟨by first | rfl | (simp [errW_none, errW_some] <;> rfl) | (simp [*, errW_none, errW_some] <;> rfl), by repeat (first | (with_reducible first | exact HB.out | apply below_alloc | apply pw_below_drewN | apply below_drew1 | refine below_set ?_ GE416.out | refine below_set ?_ GE417.out) | exact HB.out)⟩
                · rw [if_neg c25] at H
                  have c25b0 : (a0 == 2) = false := beq_eq_false_iff_ne.mpr c25
                  have c25b1 : (a0 != 2) = true := bne_iff_ne.mpr c25
                  simp only [Option.some.injEq, Prod.mk.injEq] at H
                  obtain ⟨rfl, rfl, rfl, rfl, rfl⟩ := H
                  have hnb35 := NB417_416.out
                  have hnc35 := NB416_417.out
                  have hcz36_0 : wc.cell? ⟨gb417, 0, none⟩ = some (.int .i64 0) := (blk_cell BK417.out 0).trans rfl
                  have hcz36_1 : wc.cell? ⟨gb417, 1, none⟩ = some (.int .i64 0) := (blk_cell BK417.out 1).trans rfl
                  have hcz36_2 : wc.cell? ⟨gb417, 2, none⟩ = some (.string (⟨#[]⟩ : ByteArray)) := (blk_cell BK417.out 2).trans rfl
                  have hcz36_3 : wc.cell? ⟨gb417, 3, none⟩ = some (.bool false) := (blk_cell BK417.out 3).trans rfl
                  have hfz36_0 := blk_frozen BK417.out 0
                  have hfz36_1 := blk_frozen BK417.out 1
                  have hfz36_2 := blk_frozen BK417.out 2
                  have hfz36_3 := blk_frozen BK417.out 3
                  go_wp2
                  refine bodyPost_ret (results_ct rfl _ _ gb417 26 #[.int .i64 0, .int .i64 0, .string (⟨#[]⟩ : ByteArray), .bool false] (0, 0) _ rfl (by (with_reducible repeat (first | refine blk_drewN ?_ _ | refine blk_drew ?_ | refine blk_alloc ?_ _)); refine blk_put (cs := #[.int .i64 0, .int .i64 0, .string (⟨#[]⟩ : ByteArray), .bool false]) ?_ 3 _ rfl; (with_reducible repeat (first | refine blk_drewN ?_ _ | refine blk_drew ?_ | refine blk_alloc ?_ _)); refine blk_put (cs := #[.int .i64 0, .int .i64 0, .string (⟨#[]⟩ : ByteArray), .bool false]) ?_ 2 _ rfl; (with_reducible repeat (first | refine blk_drewN ?_ _ | refine blk_drew ?_ | refine blk_alloc ?_ _)); refine blk_put (cs := #[.int .i64 0, .int .i64 0, .string (⟨#[]⟩ : ByteArray), .bool false]) ?_ 1 _ rfl; (with_reducible repeat (first | refine blk_drewN ?_ _ | refine blk_drew ?_ | refine blk_alloc ?_ _)); refine blk_put (cs := #[.int .i64 0, .int .i64 0, .string (⟨#[]⟩ : ByteArray), .bool false]) ?_ 0 _ rfl; (with_reducible repeat (first | refine blk_drewN ?_ _ | refine blk_drew ?_ | refine blk_alloc ?_ _)); exact BK417.out) Tryd.underlying26 rfl (by kernel_rfl)) rfl ?_
                  exact ⟨by first | rfl | (simp [errW_none, errW_some] <;> rfl) | (simp [*, errW_none, errW_some] <;> rfl), by repeat (first | (with_reducible first | exact HB.out | apply below_alloc | apply pw_below_drewN | apply below_drew1 | refine below_set ?_ GE416.out | refine below_set ?_ GE417.out) | exact HB.out)⟩
        · replace c11 := Bool.eq_false_iff.mpr c11
          subst c11
          have H1 : (some (0, 0, (⟨#[]⟩ : ByteArray), false, 12)) = some (r1, r2, r3, r4, r5) := by rw [if_neg (show ¬ (false = true) by decide)] at H; exact H
          clear H
          have H := H1
          clear H1
          simp only [Option.some.injEq, Prod.mk.injEq] at H
          obtain ⟨rfl, rfl, rfl, rfl, rfl⟩ := H
          have hnb37 := NB416_417.out
          have hnc37 := NB417_416.out
          have hcz38_0 : wc.cell? ⟨gb416, 0, none⟩ = some (.int .i64 a1_0) := (blk_cell BK416.out 0).trans rfl
          have hcz38_1 : wc.cell? ⟨gb416, 1, none⟩ = some (.int .i64 a1_1) := (blk_cell BK416.out 1).trans rfl
          have hcz38_2 : wc.cell? ⟨gb416, 2, none⟩ = some (.string a1_2) := (blk_cell BK416.out 2).trans rfl
          have hcz38_3 : wc.cell? ⟨gb416, 3, none⟩ = some (.bool a1_3) := (blk_cell BK416.out 3).trans rfl
          have hfz38_0 := blk_frozen BK416.out 0
          have hfz38_1 := blk_frozen BK416.out 1
          have hfz38_2 := blk_frozen BK416.out 2
          have hfz38_3 := blk_frozen BK416.out 3
          go_wp2_with (first | ((with_reducible refine gate_callee (f := 12) rfl ?_); refine goesL_ (some 15) rfl rfl Tryd.func12 (by kernel_rfl) rfl #[.agg #[.int .i64 a1_0, .int .i64 a1_1, .string a1_2, .bool a1_3]] rfl (by (try simp only [List.map_toArray, List.map_cons, List.map_nil]); first | done | rfl | (simp only [List.length_drop, List.length_take]; rfl)) ?_; (with_reducible refine (refrainref1_Valid.calls a1_0 a1_1 a1_2 a1_3 false _ A10.out).mono ?_); rintro e w39 ⟨rfl, hb⟩; refine ⟨_, rfl, ?_⟩; have n0_ := Aside0.mk (blk_below (g := gb416) (o := .cells #[.int .i64 a1_0, .int .i64 a1_1, .string a1_2, .bool a1_3] 26 (0, 0)) (by (with_reducible repeat (first | refine blk_drewN ?_ _ | refine blk_drew ?_ | refine blk_alloc ?_ _)); exact BK416.out) hb); have n1_ := Aside0.mk (blk_below (g := gb417) (o := .cells #[.int .i64 0, .int .i64 0, .string (⟨#[]⟩ : ByteArray), .bool false] 26 (0, 0)) (by (with_reducible repeat (first | refine blk_drewN ?_ _ | refine blk_drew ?_ | refine blk_alloc ?_ _)); exact BK417.out) hb); have n2_ := Aside0.mk (below_step (by repeat (first | (with_reducible first | exact HB.out | apply below_alloc | apply pw_below_drewN | apply below_drew1 | refine below_set ?_ GE416.out | refine below_set ?_ GE417.out) | exact HB.out)) hb); clear BK416; clear BK417; clear HB; have BK416 := n0_; have BK417 := n1_; have HB := n2_; clear n0_ n1_ n2_; (try clear hb); (try clear hb2); (try clear hk); (try clear hi); have hcz40_0 : w39.cell? ⟨gb417, 0, none⟩ = some (.int .i64 0) := (blk_cell BK417.out 0).trans rfl; have hcz40_1 : w39.cell? ⟨gb417, 1, none⟩ = some (.int .i64 0) := (blk_cell BK417.out 1).trans rfl; have hcz40_2 : w39.cell? ⟨gb417, 2, none⟩ = some (.string (⟨#[]⟩ : ByteArray)) := (blk_cell BK417.out 2).trans rfl; have hcz40_3 : w39.cell? ⟨gb417, 3, none⟩ = some (.bool false) := (blk_cell BK417.out 3).trans rfl; have hfz40_0 := blk_frozen BK417.out 0; have hfz40_1 := blk_frozen BK417.out 1; have hfz40_2 := blk_frozen BK417.out 2; have hfz40_3 := blk_frozen BK417.out 3))
          refine bodyPost_ret (results_ct rfl _ _ gb417 26 #[.int .i64 0, .int .i64 0, .string (⟨#[]⟩ : ByteArray), .bool false] (0, 0) _ rfl (by (with_reducible repeat (first | refine blk_drewN ?_ _ | refine blk_drew ?_ | refine blk_alloc ?_ _)); refine blk_put (cs := #[.int .i64 0, .int .i64 0, .string (⟨#[]⟩ : ByteArray), .bool false]) ?_ 3 _ rfl; (with_reducible repeat (first | refine blk_drewN ?_ _ | refine blk_drew ?_ | refine blk_alloc ?_ _)); refine blk_put (cs := #[.int .i64 0, .int .i64 0, .string (⟨#[]⟩ : ByteArray), .bool false]) ?_ 2 _ rfl; (with_reducible repeat (first | refine blk_drewN ?_ _ | refine blk_drew ?_ | refine blk_alloc ?_ _)); refine blk_put (cs := #[.int .i64 0, .int .i64 0, .string (⟨#[]⟩ : ByteArray), .bool false]) ?_ 1 _ rfl; (with_reducible repeat (first | refine blk_drewN ?_ _ | refine blk_drew ?_ | refine blk_alloc ?_ _)); refine blk_put (cs := #[.int .i64 0, .int .i64 0, .string (⟨#[]⟩ : ByteArray), .bool false]) ?_ 0 _ rfl; (with_reducible repeat (first | refine blk_drewN ?_ _ | refine blk_drew ?_ | refine blk_alloc ?_ _)); exact BK417.out) Tryd.underlying26 rfl (by kernel_rfl)) rfl ?_
          exact ⟨by first | rfl | (simp [errW_none, errW_some] <;> rfl) | (simp [*, errW_none, errW_some] <;> rfl), by repeat (first | (with_reducible first | exact HB.out | apply below_alloc | apply pw_below_drewN | apply below_drew1 | refine below_set ?_ GE416.out | refine below_set ?_ GE417.out) | exact HB.out)⟩

end Go.Proofs.YthhpeeckiggpaaaDoor.Pr

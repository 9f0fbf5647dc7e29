/-
Part 5 of the proof of the law TokenAll: texts Prx28, Prx29.
-/
import Derived.Test.YthmcapdakplhdaaDoorMTokenAll0
import Derived.Test.YthmcapdakplhdaaDoorMTokenAll4
/-! ## text Prx28 -/
section
namespace Go.Proofs.YthmcapdakplhdaaDoor.Pr
open Go.RowKit Go.Proofs.YthmcapdakplhdaaDoorW.PrintWords Go.Proofs.YthmcapdakplhdaaDoorW.PrintLast Go.Proofs.YthmcapdakplhdaaDoorW.PrintMore
attribute [local go_sem] max2_int min2_int max_two min_two max_three min_three max_four min_four   -- for this text's walks alone
attribute [local go_sem high] Go.Proofs.YthmcapdakplhdaaDoor.isSome_setCell
set_option maxRecDepth 100000
set_option linter.unusedVariables false
set_option linter.unusedSimpArgs false

/-! ### refrainref5_one: function 68 -/
def refrainref5_one.l0 : Nat → ByteArray → Int → List ByteArray → Int → Option (Int × ByteArray × Int × Int × Int × Int)
  | 0, _, _, _, _ => none
  | k + 1, x0, x1, x8, x9 => if x9 < (x8.length : Int) then (if 0 ≤ x9 then (if (wrap64 (x1 + ((rdOf ByteArray.empty x8 x9).size : Int))) ≤ (x0.size : Int) then (if 0 ≤ x1 then (if x1 ≤ (wrap64 (x1 + ((rdOf ByteArray.empty x8 x9).size : Int))) then (if (x0.extract (x1 : Int).toNat ((wrap64 (x1 + ((rdOf ByteArray.empty x8 x9).size : Int))) : Int).toNat).toList = (rdOf ByteArray.empty x8 x9).toList then (some (4, rdOf ByteArray.empty x8 x9, x1, wrap64 (x1 + ((rdOf ByteArray.empty x8 x9).size : Int)), 0, 0)) else (refrainref5_one.l0 k x0 x1 x8 (wrap64 (x9 + 1)))) else (none)) else (none)) else (refrainref5_one.l0 k x0 x1 x8 (wrap64 (x9 + 1)))) else (none)) else (some (0, (⟨#[]⟩ : ByteArray), 0, 0, x1, 50))
def refrainref5_one.f (k : Nat) (a0 : ByteArray) (a1 : Int) : Option (Int × ByteArray × Int × Int × Int × Int) := if 0 ≤ a1 then (if a1 < (a0.size : Int) then ((refrainref5_letter.f (bt a0 a1)).bind fun t563 => (if t563 = true then ((refrainref5_run.f k a0 a1 true).bind fun t564 => (if (wrap64 (t564 - a1)) > 32 then (some (0, (⟨#[]⟩ : ByteArray), 0, 0, a1, 51)) else (if a1 ≤ t564 then (if t564 ≤ (a0.size : Int) then (some (1, a0.extract (a1 : Int).toNat (t564 : Int).toNat, a1, t564, 0, 0)) else (none)) else (none)))) else ((refrainref5_digit.f (bt a0 a1)).bind fun t565 => (if t565 = true then ((refrainref5_run.f k a0 a1 false).bind fun t566 => (if a1 ≤ t566 then (if t566 ≤ (a0.size : Int) then ((refrainref5_small.f k (a0.extract (a1 : Int).toNat (t566 : Int).toNat)).bind fun t567 => (if t567 = true then (if t566 < (a0.size : Int) then (if 0 ≤ t566 then ((refrainref5_letter.f (bt a0 t566)).bind fun t568 => (if t568 = true then (some (0, (⟨#[]⟩ : ByteArray), 0, 0, a1, 51)) else (some (2, a0.extract (a1 : Int).toNat (t566 : Int).toNat, a1, t566, 0, 0)))) else (none)) else (some (2, a0.extract (a1 : Int).toNat (t566 : Int).toNat, a1, t566, 0, 0))) else (some (0, (⟨#[]⟩ : ByteArray), 0, 0, a1, 51)))) else (none)) else (none))) else (if (bt a0 a1) = 34 then ((refrainref5_str.f k a0 a1).bind fun bt569 => (some (bt569.1, bt569.2.1, bt569.2.2.1, bt569.2.2.2.1, bt569.2.2.2.2.1, bt569.2.2.2.2.2))) else ((refrainref5_signs.f).bind fun t575 => (refrainref5_one.l0 k a0 a1 t575 0))))))) else (none)) else (none)
set_option maxRecDepth 100000 in
theorem refrainref5_one.l0_zero : ∀ y0 y1 y2 y3, refrainref5_one.l0 0 y0 y1 y2 y3 = none := fun _ _ _ _ => rfl
set_option maxRecDepth 100000 in
theorem refrainref5_one.mono_l : ∀ k, (∀ y0 y1 y2 y3, LeO (refrainref5_one.l0 k y0 y1 y2 y3) (refrainref5_one.l0 (k + 1) y0 y1 y2 y3))
  | 0 => fun _ _ _ _ r h => by (unfold refrainref5_one.l0 at h; cases h)
  | k + 1 => by
    have ih0 := refrainref5_one.mono_l k
    · intro y0 y1 y2 y3
      unfold refrainref5_one.l0
      repeat' first
      | (with_reducible exact ih0 _ _ _ _)
      | (with_reducible exact refrainref5_run.mono _ _ _ _)
      | (with_reducible exact refrainref5_small.mono _ _)
      | (with_reducible exact refrainref5_str.mono _ _ _)
      | (with_reducible exact LeO.refl _)
      | (with_reducible exact LeO.none _)
      | (with_reducible refine LeO.ite ?_ ?_)
      | (with_reducible refine LeO.bind ?_ (fun _ => ?_))
      | exact ih0 _ _ _ _
      | exact refrainref5_run.mono _ _ _ _
      | exact refrainref5_small.mono _ _
      | exact refrainref5_str.mono _ _ _
      | exact LeO.none _
      | refine LeO.ite ?_ ?_
      | refine LeO.bind ?_ (fun _ => ?_)
set_option maxRecDepth 100000 in
theorem refrainref5_one.mono : ∀ a0 a1 k, LeO (refrainref5_one.f k a0 a1) (refrainref5_one.f (k + 1) a0 a1) := by
  intro a0 a1 k
  have ih0 := refrainref5_one.mono_l k
  unfold refrainref5_one.f
  repeat' first
      | (with_reducible exact ih0 _ _ _ _)
      | (with_reducible exact refrainref5_run.mono _ _ _ _)
      | (with_reducible exact refrainref5_small.mono _ _)
      | (with_reducible exact refrainref5_str.mono _ _ _)
      | (with_reducible exact LeO.refl _)
      | (with_reducible exact LeO.none _)
      | (with_reducible refine LeO.ite ?_ ?_)
      | (with_reducible refine LeO.bind ?_ (fun _ => ?_))
      | exact ih0 _ _ _ _
      | exact refrainref5_run.mono _ _ _ _
      | exact refrainref5_small.mono _ _
      | exact refrainref5_str.mono _ _ _
      | exact LeO.none _
      | refine LeO.ite ?_ ?_
      | refine LeO.bind ?_ (fun _ => ?_)
set_option maxHeartbeats 8000000 in
set_option maxRecDepth 100000 in
theorem refrainref5_one.calls (k : Nat) (a0 : ByteArray) (a1 : Int) (r1 : Int) (r2 : ByteArray) (r3 : Int) (r4 : Int) (r5 : Int) (r6 : Int) (w : World) (h : refrainref5_one.f k a0 a1 = some (r1, r2, r3, r4, r5, r6)) :
    Calls Tryd.prog 68 #[.string a0, .int .i64 a1] w fun e w' => e = .returned (.agg #[.int .i64 r1, .string r2, .int .i64 r3, .int .i64 r4, .int .i64 r5, .int .i64 r6]) ∧ Below w.heap.size w w' := by
  have hu113 := Tryd.underlying113
  have hu44 := Tryd.underlying44
  have HB := Aside0.mk (Below.refl w.heap.size w)
  have H : (if 0 ≤ a1 then (if a1 < (a0.size : Int) then ((refrainref5_letter.f (bt a0 a1)).bind fun t563 => (if t563 = true then ((refrainref5_run.f k a0 a1 true).bind fun t564 => (if (wrap64 (t564 - a1)) > 32 then (some (0, (⟨#[]⟩ : ByteArray), 0, 0, a1, 51)) else (if a1 ≤ t564 then (if t564 ≤ (a0.size : Int) then (some (1, a0.extract (a1 : Int).toNat (t564 : Int).toNat, a1, t564, 0, 0)) else (none)) else (none)))) else ((refrainref5_digit.f (bt a0 a1)).bind fun t565 => (if t565 = true then ((refrainref5_run.f k a0 a1 false).bind fun t566 => (if a1 ≤ t566 then (if t566 ≤ (a0.size : Int) then ((refrainref5_small.f k (a0.extract (a1 : Int).toNat (t566 : Int).toNat)).bind fun t567 => (if t567 = true then (if t566 < (a0.size : Int) then (if 0 ≤ t566 then ((refrainref5_letter.f (bt a0 t566)).bind fun t568 => (if t568 = true then (some (0, (⟨#[]⟩ : ByteArray), 0, 0, a1, 51)) else (some (2, a0.extract (a1 : Int).toNat (t566 : Int).toNat, a1, t566, 0, 0)))) else (none)) else (some (2, a0.extract (a1 : Int).toNat (t566 : Int).toNat, a1, t566, 0, 0))) else (some (0, (⟨#[]⟩ : ByteArray), 0, 0, a1, 51)))) else (none)) else (none))) else (if (bt a0 a1) = 34 then ((refrainref5_str.f k a0 a1).bind fun bt569 => (some (bt569.1, bt569.2.1, bt569.2.2.1, bt569.2.2.2.1, bt569.2.2.2.2.1, bt569.2.2.2.2.2))) else ((refrainref5_signs.f).bind fun t575 => (refrainref5_one.l0 k a0 a1 t575 0))))))) else (none)) else (none)) = some (r1, r2, r3, r4, r5, r6) := h
  clear h
  by_cases c3 : 0 ≤ a1
  · rw [if_pos c3] at H
    have c3b0 : decide (0 ≤ a1) = true := decide_eq_true c3
    clear c3
    by_cases c4 : a1 < (a0.size : Int)
    · rw [if_pos c4] at H
      have c4b0 : decide (a1 < (a0.size : Int)) = true := decide_eq_true c4
      clear c4
      replace H := Option.bind_eq_some_iff.mp H
      obtain ⟨t563, A60, H⟩ := H
      replace H : (if t563 = true then ((refrainref5_run.f k a0 a1 true).bind fun t564 => (if (wrap64 (t564 - a1)) > 32 then (some (0, (⟨#[]⟩ : ByteArray), 0, 0, a1, 51)) else (if a1 ≤ t564 then (if t564 ≤ (a0.size : Int) then (some (1, a0.extract (a1 : Int).toNat (t564 : Int).toNat, a1, t564, 0, 0)) else (none)) else (none)))) else ((refrainref5_digit.f (bt a0 a1)).bind fun t565 => (if t565 = true then ((refrainref5_run.f k a0 a1 false).bind fun t566 => (if a1 ≤ t566 then (if t566 ≤ (a0.size : Int) then ((refrainref5_small.f k (a0.extract (a1 : Int).toNat (t566 : Int).toNat)).bind fun t567 => (if t567 = true then (if t566 < (a0.size : Int) then (if 0 ≤ t566 then ((refrainref5_letter.f (bt a0 t566)).bind fun t568 => (if t568 = true then (some (0, (⟨#[]⟩ : ByteArray), 0, 0, a1, 51)) else (some (2, a0.extract (a1 : Int).toNat (t566 : Int).toNat, a1, t566, 0, 0)))) else (none)) else (some (2, a0.extract (a1 : Int).toNat (t566 : Int).toNat, a1, t566, 0, 0))) else (some (0, (⟨#[]⟩ : ByteArray), 0, 0, a1, 51)))) else (none)) else (none))) else (if (bt a0 a1) = 34 then ((refrainref5_str.f k a0 a1).bind fun bt569 => (some (bt569.1, bt569.2.1, bt569.2.2.1, bt569.2.2.2.1, bt569.2.2.2.2.1, bt569.2.2.2.2.2))) else ((refrainref5_signs.f).bind fun t575 => (refrainref5_one.l0 k a0 a1 t575 0)))))) = some (r1, r2, r3, r4, r5, r6) := H
      have A6 := Aside0.mk A60
      clear A60
      by_cases c7 : t563 = true
      · subst c7
        have H1 : ((refrainref5_run.f k a0 a1 true).bind fun t564 => (if (wrap64 (t564 - a1)) > 32 then (some (0, (⟨#[]⟩ : ByteArray), 0, 0, a1, 51)) else (if a1 ≤ t564 then (if t564 ≤ (a0.size : Int) then (some (1, a0.extract (a1 : Int).toNat (t564 : Int).toNat, a1, t564, 0, 0)) else (none)) else (none)))) = some (r1, r2, r3, r4, r5, r6) := by rw [if_pos rfl] at H; exact H
        clear H
        have H := H1
        clear H1
        replace H := Option.bind_eq_some_iff.mp H
        obtain ⟨t564, A80, H⟩ := H
        replace H : (if (wrap64 (t564 - a1)) > 32 then (some (0, (⟨#[]⟩ : ByteArray), 0, 0, a1, 51)) else (if a1 ≤ t564 then (if t564 ≤ (a0.size : Int) then (some (1, a0.extract (a1 : Int).toNat (t564 : Int).toNat, a1, t564, 0, 0)) else (none)) else (none))) = some (r1, r2, r3, r4, r5, r6) := H
        have A8 := Aside0.mk A80
        clear A80
        by_cases c9 : (wrap64 (t564 - a1)) > 32
        · rw [if_pos c9] at H
          have c9b0 : decide (32 < (wrap64 (t564 - a1))) = true := decide_eq_true c9
          clear c9
          simp only [Option.some.injEq, Prod.mk.injEq] at H
          obtain ⟨rfl, rfl, rfl, rfl, rfl, rfl⟩ := H
          go_enter Tryd.func68, Tryd.ntmps68
          go_wp2_with (first | ((with_reducible refine gate_dst (N := 4) rfl ?_); (try (refine gate_guard (by rfl) ?_; dsimp only)); refine box_event ?hg (N := 4) ?hd (cs := #[.int .i64 0, .string (⟨#[]⟩ : ByteArray), .int .i64 0, .int .i64 0, .int .i64 0, .int .i64 0]) (t := 113) ?hr ?_; (case hd => rfl); (case hg => rfl); (case hr => first | (go_simp; done) | (go_simp; rfl)); intro gb562 hg w10 hbox hb; have BK562 := Aside0.mk hbox; have GW562 := geA hg HB; have GE562 := geA hg HB; replace HB := bsA HB hb; clear hb hbox hg; have p5 : 0 ≤ (a1 : Int) := of_decide_eq_true (by first | (with_reducible assumption) | assumption); have q5 : a1 < (a0.size : Int) := of_decide_eq_true (by first | (with_reducible assumption) | assumption); have hx5 := bt_at a0 a1; replace p5 := eq_true p5; replace q5 := eq_true q5) | (go_at_call 82; (with_reducible refine (refrainref5_letter.calls (bt a0 a1) true _ A6.out).mono ?_); rintro e w' ⟨rfl, ⟨nd, rfl⟩⟩; (try first | exact ⟨rfl, _, World.drewN_drewN _ _ _⟩ | exact ⟨rfl, _, Eq.trans (World.drewN_drewN _ _ _) (congrArg (World.drewN _) (Nat.add_assoc _ _ _))⟩)) | (go_at_call 83; (with_reducible refine (refrainref5_run.calls k a0 a1 true t564 _ A8.out).mono ?_); rintro e w' ⟨rfl, ⟨nd, rfl⟩⟩; (try first | exact ⟨rfl, _, World.drewN_drewN _ _ _⟩ | exact ⟨rfl, _, Eq.trans (World.drewN_drewN _ _ _) (congrArg (World.drewN _) (Nat.add_assoc _ _ _))⟩); have hcz11_0 : w10.cell? ⟨gb562, 0, none⟩ = some (.int .i64 0) := (blk_cell BK562.out 0).trans rfl; have hcz11_1 : w10.cell? ⟨gb562, 1, none⟩ = some (.string (⟨#[]⟩ : ByteArray)) := (blk_cell BK562.out 1).trans rfl; have hcz11_2 : w10.cell? ⟨gb562, 2, none⟩ = some (.int .i64 0) := (blk_cell BK562.out 2).trans rfl; have hcz11_3 : w10.cell? ⟨gb562, 3, none⟩ = some (.int .i64 0) := (blk_cell BK562.out 3).trans rfl; have hcz11_4 : w10.cell? ⟨gb562, 4, none⟩ = some (.int .i64 0) := (blk_cell BK562.out 4).trans rfl; have hcz11_5 : w10.cell? ⟨gb562, 5, none⟩ = some (.int .i64 0) := (blk_cell BK562.out 5).trans rfl; have hfz11_0 := blk_frozen BK562.out 0; have hfz11_1 := blk_frozen BK562.out 1; have hfz11_2 := blk_frozen BK562.out 2; have hfz11_3 := blk_frozen BK562.out 3; have hfz11_4 := blk_frozen BK562.out 4; have hfz11_5 := blk_frozen BK562.out 5))
          repeat (go_quiet (first | ((with_reducible refine gate_dst (N := 4) rfl ?_); (try (refine gate_guard (by rfl) ?_; dsimp only)); refine box_event ?hg (N := 4) ?hd (cs := #[.int .i64 0, .string (⟨#[]⟩ : ByteArray), .int .i64 0, .int .i64 0, .int .i64 0, .int .i64 0]) (t := 113) ?hr ?_; (case hd => rfl); (case hg => rfl); (case hr => first | (go_simp; done) | (go_simp; rfl)); intro gb562 hg w10 hbox hb; have BK562 := Aside0.mk hbox; have GW562 := geA hg HB; have GE562 := geA hg HB; replace HB := bsA HB hb; clear hb hbox hg; have p5 : 0 ≤ (a1 : Int) := of_decide_eq_true (by first | (with_reducible assumption) | assumption); have q5 : a1 < (a0.size : Int) := of_decide_eq_true (by first | (with_reducible assumption) | assumption); have hx5 := bt_at a0 a1; replace p5 := eq_true p5; replace q5 := eq_true q5) | (go_at_call 82; (with_reducible refine (refrainref5_letter.calls (bt a0 a1) true _ A6.out).mono ?_); rintro e w' ⟨rfl, ⟨nd, rfl⟩⟩; (try first | exact ⟨rfl, _, World.drewN_drewN _ _ _⟩ | exact ⟨rfl, _, Eq.trans (World.drewN_drewN _ _ _) (congrArg (World.drewN _) (Nat.add_assoc _ _ _))⟩)) | (go_at_call 83; (with_reducible refine (refrainref5_run.calls k a0 a1 true t564 _ A8.out).mono ?_); rintro e w' ⟨rfl, ⟨nd, rfl⟩⟩; (try first | exact ⟨rfl, _, World.drewN_drewN _ _ _⟩ | exact ⟨rfl, _, Eq.trans (World.drewN_drewN _ _ _) (congrArg (World.drewN _) (Nat.add_assoc _ _ _))⟩); have hcz11_0 : w10.cell? ⟨gb562, 0, none⟩ = some (.int .i64 0) := (blk_cell BK562.out 0).trans rfl; have hcz11_1 : w10.cell? ⟨gb562, 1, none⟩ = some (.string (⟨#[]⟩ : ByteArray)) := (blk_cell BK562.out 1).trans rfl; have hcz11_2 : w10.cell? ⟨gb562, 2, none⟩ = some (.int .i64 0) := (blk_cell BK562.out 2).trans rfl; have hcz11_3 : w10.cell? ⟨gb562, 3, none⟩ = some (.int .i64 0) := (blk_cell BK562.out 3).trans rfl; have hcz11_4 : w10.cell? ⟨gb562, 4, none⟩ = some (.int .i64 0) := (blk_cell BK562.out 4).trans rfl; have hcz11_5 : w10.cell? ⟨gb562, 5, none⟩ = some (.int .i64 0) := (blk_cell BK562.out 5).trans rfl; have hfz11_0 := blk_frozen BK562.out 0; have hfz11_1 := blk_frozen BK562.out 1; have hfz11_2 := blk_frozen BK562.out 2; have hfz11_3 := blk_frozen BK562.out 3; have hfz11_4 := blk_frozen BK562.out 4; have hfz11_5 := blk_frozen BK562.out 5)); try go_wp2_with (first | ((with_reducible refine gate_dst (N := 4) rfl ?_); (try (refine gate_guard (by rfl) ?_; dsimp only)); refine box_event ?hg (N := 4) ?hd (cs := #[.int .i64 0, .string (⟨#[]⟩ : ByteArray), .int .i64 0, .int .i64 0, .int .i64 0, .int .i64 0]) (t := 113) ?hr ?_; (case hd => rfl); (case hg => rfl); (case hr => first | (go_simp; done) | (go_simp; rfl)); intro gb562 hg w10 hbox hb; have BK562 := Aside0.mk hbox; have GW562 := geA hg HB; have GE562 := geA hg HB; replace HB := bsA HB hb; clear hb hbox hg; have p5 : 0 ≤ (a1 : Int) := of_decide_eq_true (by first | (with_reducible assumption) | assumption); have q5 : a1 < (a0.size : Int) := of_decide_eq_true (by first | (with_reducible assumption) | assumption); have hx5 := bt_at a0 a1; replace p5 := eq_true p5; replace q5 := eq_true q5) | (go_at_call 82; (with_reducible refine (refrainref5_letter.calls (bt a0 a1) true _ A6.out).mono ?_); rintro e w' ⟨rfl, ⟨nd, rfl⟩⟩; (try first | exact ⟨rfl, _, World.drewN_drewN _ _ _⟩ | exact ⟨rfl, _, Eq.trans (World.drewN_drewN _ _ _) (congrArg (World.drewN _) (Nat.add_assoc _ _ _))⟩)) | (go_at_call 83; (with_reducible refine (refrainref5_run.calls k a0 a1 true t564 _ A8.out).mono ?_); rintro e w' ⟨rfl, ⟨nd, rfl⟩⟩; (try first | exact ⟨rfl, _, World.drewN_drewN _ _ _⟩ | exact ⟨rfl, _, Eq.trans (World.drewN_drewN _ _ _) (congrArg (World.drewN _) (Nat.add_assoc _ _ _))⟩); have hcz11_0 : w10.cell? ⟨gb562, 0, none⟩ = some (.int .i64 0) := (blk_cell BK562.out 0).trans rfl; have hcz11_1 : w10.cell? ⟨gb562, 1, none⟩ = some (.string (⟨#[]⟩ : ByteArray)) := (blk_cell BK562.out 1).trans rfl; have hcz11_2 : w10.cell? ⟨gb562, 2, none⟩ = some (.int .i64 0) := (blk_cell BK562.out 2).trans rfl; have hcz11_3 : w10.cell? ⟨gb562, 3, none⟩ = some (.int .i64 0) := (blk_cell BK562.out 3).trans rfl; have hcz11_4 : w10.cell? ⟨gb562, 4, none⟩ = some (.int .i64 0) := (blk_cell BK562.out 4).trans rfl; have hcz11_5 : w10.cell? ⟨gb562, 5, none⟩ = some (.int .i64 0) := (blk_cell BK562.out 5).trans rfl; have hfz11_0 := blk_frozen BK562.out 0; have hfz11_1 := blk_frozen BK562.out 1; have hfz11_2 := blk_frozen BK562.out 2; have hfz11_3 := blk_frozen BK562.out 3; have hfz11_4 := blk_frozen BK562.out 4; have hfz11_5 := blk_frozen BK562.out 5)))
          refine bodyPost_ret (results_cell_row rfl _ _ gb562 113 #[.int .i64 0, .string (⟨#[]⟩ : ByteArray), .int .i64 0, .int .i64 0, .int .i64 a1, .int .i64 51] (0, 0) _ rfl (by (with_reducible repeat (first | refine blk_drewN ?_ _ | refine blk_drew ?_ | refine blk_alloc ?_ _)); refine blk_put (cs := #[.int .i64 0, .string (⟨#[]⟩ : ByteArray), .int .i64 0, .int .i64 0, .int .i64 a1, .int .i64 0]) ?_ 5 _ rfl; (with_reducible repeat (first | refine blk_drewN ?_ _ | refine blk_drew ?_ | refine blk_alloc ?_ _)); refine blk_put (cs := #[.int .i64 0, .string (⟨#[]⟩ : ByteArray), .int .i64 0, .int .i64 0, .int .i64 0, .int .i64 0]) ?_ 4 _ rfl; (with_reducible repeat (first | refine blk_drewN ?_ _ | refine blk_drew ?_ | refine blk_alloc ?_ _)); refine blk_put (cs := #[.int .i64 0, .string (⟨#[]⟩ : ByteArray), .int .i64 0, .int .i64 0, .int .i64 0, .int .i64 0]) ?_ 3 _ rfl; (with_reducible repeat (first | refine blk_drewN ?_ _ | refine blk_drew ?_ | refine blk_alloc ?_ _)); refine blk_put (cs := #[.int .i64 0, .string (⟨#[]⟩ : ByteArray), .int .i64 0, .int .i64 0, .int .i64 0, .int .i64 0]) ?_ 2 _ rfl; (with_reducible repeat (first | refine blk_drewN ?_ _ | refine blk_drew ?_ | refine blk_alloc ?_ _)); refine blk_put (cs := #[.int .i64 0, .string (⟨#[]⟩ : ByteArray), .int .i64 0, .int .i64 0, .int .i64 0, .int .i64 0]) ?_ 1 _ rfl; (with_reducible repeat (first | refine blk_drewN ?_ _ | refine blk_drew ?_ | refine blk_alloc ?_ _)); refine blk_put (cs := #[.int .i64 0, .string (⟨#[]⟩ : ByteArray), .int .i64 0, .int .i64 0, .int .i64 0, .int .i64 0]) ?_ 0 _ rfl; (with_reducible repeat (first | refine blk_drewN ?_ _ | refine blk_drew ?_ | refine blk_alloc ?_ _)); exact BK562.out) Tryd.underlying113 rfl (by kernel_rfl)) rfl ?_
          exact ⟨by first | rfl | (simp [errW_none, errW_some] <;> rfl) | (simp [*, errW_none, errW_some] <;> rfl), hbT HB.out⟩
        · rw [if_neg c9] at H
          have c9b0 : decide (32 < (wrap64 (t564 - a1))) = false := decide_eq_false c9
          clear c9
          have c12b0 := eq_true (of_decide_eq_true (by first | (with_reducible assumption) | assumption) : 0 ≤ a1)
          by_cases c13 : a1 ≤ t564
          · rw [if_pos c13] at H
            have c13b0 := eq_true c13
            have c13b1 : decide (a1 ≤ t564) = true := decide_eq_true c13
            clear c13
            by_cases c14 : t564 ≤ (a0.size : Int)
            · rw [if_pos c14] at H
              have c14b0 := eq_true c14
              have c14b1 : decide (t564 ≤ (a0.size : Int)) = true := decide_eq_true c14
              clear c14
              simp only [Option.some.injEq, Prod.mk.injEq] at H
              obtain ⟨rfl, rfl, rfl, rfl, rfl, rfl⟩ := H
              go_enter Tryd.func68, Tryd.ntmps68
              go_wp2_with (first | ((with_reducible refine gate_dst (N := 4) rfl ?_); (try (refine gate_guard (by rfl) ?_; dsimp only)); refine box_event ?hg (N := 4) ?hd (cs := #[.int .i64 0, .string (⟨#[]⟩ : ByteArray), .int .i64 0, .int .i64 0, .int .i64 0, .int .i64 0]) (t := 113) ?hr ?_; (case hd => rfl); (case hg => rfl); (case hr => first | (go_simp; done) | (go_simp; rfl)); intro gb562 hg w15 hbox hb; have BK562 := Aside0.mk hbox; have GW562 := geA hg HB; have GE562 := geA hg HB; replace HB := bsA HB hb; clear hb hbox hg; have p5 : 0 ≤ (a1 : Int) := of_decide_eq_true (by first | (with_reducible assumption) | assumption); have q5 : a1 < (a0.size : Int) := of_decide_eq_true (by first | (with_reducible assumption) | assumption); have hx5 := bt_at a0 a1; replace p5 := eq_true p5; replace q5 := eq_true q5) | (go_at_call 82; (with_reducible refine (refrainref5_letter.calls (bt a0 a1) true _ A6.out).mono ?_); rintro e w' ⟨rfl, ⟨nd, rfl⟩⟩; (try first | exact ⟨rfl, _, World.drewN_drewN _ _ _⟩ | exact ⟨rfl, _, Eq.trans (World.drewN_drewN _ _ _) (congrArg (World.drewN _) (Nat.add_assoc _ _ _))⟩)) | (go_at_call 83; (with_reducible refine (refrainref5_run.calls k a0 a1 true t564 _ A8.out).mono ?_); rintro e w' ⟨rfl, ⟨nd, rfl⟩⟩; (try first | exact ⟨rfl, _, World.drewN_drewN _ _ _⟩ | exact ⟨rfl, _, Eq.trans (World.drewN_drewN _ _ _) (congrArg (World.drewN _) (Nat.add_assoc _ _ _))⟩); have hcz16_0 : w15.cell? ⟨gb562, 0, none⟩ = some (.int .i64 0) := (blk_cell BK562.out 0).trans rfl; have hcz16_1 : w15.cell? ⟨gb562, 1, none⟩ = some (.string (⟨#[]⟩ : ByteArray)) := (blk_cell BK562.out 1).trans rfl; have hcz16_2 : w15.cell? ⟨gb562, 2, none⟩ = some (.int .i64 0) := (blk_cell BK562.out 2).trans rfl; have hcz16_3 : w15.cell? ⟨gb562, 3, none⟩ = some (.int .i64 0) := (blk_cell BK562.out 3).trans rfl; have hcz16_4 : w15.cell? ⟨gb562, 4, none⟩ = some (.int .i64 0) := (blk_cell BK562.out 4).trans rfl; have hcz16_5 : w15.cell? ⟨gb562, 5, none⟩ = some (.int .i64 0) := (blk_cell BK562.out 5).trans rfl; have hfz16_0 := blk_frozen BK562.out 0; have hfz16_1 := blk_frozen BK562.out 1; have hfz16_2 := blk_frozen BK562.out 2; have hfz16_3 := blk_frozen BK562.out 3; have hfz16_4 := blk_frozen BK562.out 4; have hfz16_5 := blk_frozen BK562.out 5))
              repeat (go_quiet (first | ((with_reducible refine gate_dst (N := 4) rfl ?_); (try (refine gate_guard (by rfl) ?_; dsimp only)); refine box_event ?hg (N := 4) ?hd (cs := #[.int .i64 0, .string (⟨#[]⟩ : ByteArray), .int .i64 0, .int .i64 0, .int .i64 0, .int .i64 0]) (t := 113) ?hr ?_; (case hd => rfl); (case hg => rfl); (case hr => first | (go_simp; done) | (go_simp; rfl)); intro gb562 hg w15 hbox hb; have BK562 := Aside0.mk hbox; have GW562 := geA hg HB; have GE562 := geA hg HB; replace HB := bsA HB hb; clear hb hbox hg; have p5 : 0 ≤ (a1 : Int) := of_decide_eq_true (by first | (with_reducible assumption) | assumption); have q5 : a1 < (a0.size : Int) := of_decide_eq_true (by first | (with_reducible assumption) | assumption); have hx5 := bt_at a0 a1; replace p5 := eq_true p5; replace q5 := eq_true q5) | (go_at_call 82; (with_reducible refine (refrainref5_letter.calls (bt a0 a1) true _ A6.out).mono ?_); rintro e w' ⟨rfl, ⟨nd, rfl⟩⟩; (try first | exact ⟨rfl, _, World.drewN_drewN _ _ _⟩ | exact ⟨rfl, _, Eq.trans (World.drewN_drewN _ _ _) (congrArg (World.drewN _) (Nat.add_assoc _ _ _))⟩)) | (go_at_call 83; (with_reducible refine (refrainref5_run.calls k a0 a1 true t564 _ A8.out).mono ?_); rintro e w' ⟨rfl, ⟨nd, rfl⟩⟩; (try first | exact ⟨rfl, _, World.drewN_drewN _ _ _⟩ | exact ⟨rfl, _, Eq.trans (World.drewN_drewN _ _ _) (congrArg (World.drewN _) (Nat.add_assoc _ _ _))⟩); have hcz16_0 : w15.cell? ⟨gb562, 0, none⟩ = some (.int .i64 0) := (blk_cell BK562.out 0).trans rfl; have hcz16_1 : w15.cell? ⟨gb562, 1, none⟩ = some (.string (⟨#[]⟩ : ByteArray)) := (blk_cell BK562.out 1).trans rfl; have hcz16_2 : w15.cell? ⟨gb562, 2, none⟩ = some (.int .i64 0) := (blk_cell BK562.out 2).trans rfl; have hcz16_3 : w15.cell? ⟨gb562, 3, none⟩ = some (.int .i64 0) := (blk_cell BK562.out 3).trans rfl; have hcz16_4 : w15.cell? ⟨gb562, 4, none⟩ = some (.int .i64 0) := (blk_cell BK562.out 4).trans rfl; have hcz16_5 : w15.cell? ⟨gb562, 5, none⟩ = some (.int .i64 0) := (blk_cell BK562.out 5).trans rfl; have hfz16_0 := blk_frozen BK562.out 0; have hfz16_1 := blk_frozen BK562.out 1; have hfz16_2 := blk_frozen BK562.out 2; have hfz16_3 := blk_frozen BK562.out 3; have hfz16_4 := blk_frozen BK562.out 4; have hfz16_5 := blk_frozen BK562.out 5)); try go_wp2_with (first | ((with_reducible refine gate_dst (N := 4) rfl ?_); (try (refine gate_guard (by rfl) ?_; dsimp only)); refine box_event ?hg (N := 4) ?hd (cs := #[.int .i64 0, .string (⟨#[]⟩ : ByteArray), .int .i64 0, .int .i64 0, .int .i64 0, .int .i64 0]) (t := 113) ?hr ?_; (case hd => rfl); (case hg => rfl); (case hr => first | (go_simp; done) | (go_simp; rfl)); intro gb562 hg w15 hbox hb; have BK562 := Aside0.mk hbox; have GW562 := geA hg HB; have GE562 := geA hg HB; replace HB := bsA HB hb; clear hb hbox hg; have p5 : 0 ≤ (a1 : Int) := of_decide_eq_true (by first | (with_reducible assumption) | assumption); have q5 : a1 < (a0.size : Int) := of_decide_eq_true (by first | (with_reducible assumption) | assumption); have hx5 := bt_at a0 a1; replace p5 := eq_true p5; replace q5 := eq_true q5) | (go_at_call 82; (with_reducible refine (refrainref5_letter.calls (bt a0 a1) true _ A6.out).mono ?_); rintro e w' ⟨rfl, ⟨nd, rfl⟩⟩; (try first | exact ⟨rfl, _, World.drewN_drewN _ _ _⟩ | exact ⟨rfl, _, Eq.trans (World.drewN_drewN _ _ _) (congrArg (World.drewN _) (Nat.add_assoc _ _ _))⟩)) | (go_at_call 83; (with_reducible refine (refrainref5_run.calls k a0 a1 true t564 _ A8.out).mono ?_); rintro e w' ⟨rfl, ⟨nd, rfl⟩⟩; (try first | exact ⟨rfl, _, World.drewN_drewN _ _ _⟩ | exact ⟨rfl, _, Eq.trans (World.drewN_drewN _ _ _) (congrArg (World.drewN _) (Nat.add_assoc _ _ _))⟩); have hcz16_0 : w15.cell? ⟨gb562, 0, none⟩ = some (.int .i64 0) := (blk_cell BK562.out 0).trans rfl; have hcz16_1 : w15.cell? ⟨gb562, 1, none⟩ = some (.string (⟨#[]⟩ : ByteArray)) := (blk_cell BK562.out 1).trans rfl; have hcz16_2 : w15.cell? ⟨gb562, 2, none⟩ = some (.int .i64 0) := (blk_cell BK562.out 2).trans rfl; have hcz16_3 : w15.cell? ⟨gb562, 3, none⟩ = some (.int .i64 0) := (blk_cell BK562.out 3).trans rfl; have hcz16_4 : w15.cell? ⟨gb562, 4, none⟩ = some (.int .i64 0) := (blk_cell BK562.out 4).trans rfl; have hcz16_5 : w15.cell? ⟨gb562, 5, none⟩ = some (.int .i64 0) := (blk_cell BK562.out 5).trans rfl; have hfz16_0 := blk_frozen BK562.out 0; have hfz16_1 := blk_frozen BK562.out 1; have hfz16_2 := blk_frozen BK562.out 2; have hfz16_3 := blk_frozen BK562.out 3; have hfz16_4 := blk_frozen BK562.out 4; have hfz16_5 := blk_frozen BK562.out 5)))
              refine bodyPost_ret (results_cell_row rfl _ _ gb562 113 #[.int .i64 1, .string (a0.extract (a1 : Int).toNat (t564 : Int).toNat), .int .i64 a1, .int .i64 t564, .int .i64 0, .int .i64 0] (0, 0) _ rfl (by (with_reducible repeat (first | refine blk_drewN ?_ _ | refine blk_drew ?_ | refine blk_alloc ?_ _)); refine blk_put (cs := #[.int .i64 1, .string (a0.extract (a1 : Int).toNat (t564 : Int).toNat), .int .i64 a1, .int .i64 t564, .int .i64 0, .int .i64 0]) ?_ 5 _ rfl; (with_reducible repeat (first | refine blk_drewN ?_ _ | refine blk_drew ?_ | refine blk_alloc ?_ _)); refine blk_put (cs := #[.int .i64 1, .string (a0.extract (a1 : Int).toNat (t564 : Int).toNat), .int .i64 a1, .int .i64 t564, .int .i64 0, .int .i64 0]) ?_ 4 _ rfl; (with_reducible repeat (first | refine blk_drewN ?_ _ | refine blk_drew ?_ | refine blk_alloc ?_ _)); refine blk_put (cs := #[.int .i64 1, .string (a0.extract (a1 : Int).toNat (t564 : Int).toNat), .int .i64 a1, .int .i64 0, .int .i64 0, .int .i64 0]) ?_ 3 _ rfl; (with_reducible repeat (first | refine blk_drewN ?_ _ | refine blk_drew ?_ | refine blk_alloc ?_ _)); refine blk_put (cs := #[.int .i64 1, .string (a0.extract (a1 : Int).toNat (t564 : Int).toNat), .int .i64 0, .int .i64 0, .int .i64 0, .int .i64 0]) ?_ 2 _ rfl; (with_reducible repeat (first | refine blk_drewN ?_ _ | refine blk_drew ?_ | refine blk_alloc ?_ _)); refine blk_put (cs := #[.int .i64 1, .string (⟨#[]⟩ : ByteArray), .int .i64 0, .int .i64 0, .int .i64 0, .int .i64 0]) ?_ 1 _ rfl; (with_reducible repeat (first | refine blk_drewN ?_ _ | refine blk_drew ?_ | refine blk_alloc ?_ _)); refine blk_put (cs := #[.int .i64 0, .string (⟨#[]⟩ : ByteArray), .int .i64 0, .int .i64 0, .int .i64 0, .int .i64 0]) ?_ 0 _ rfl; (with_reducible repeat (first | refine blk_drewN ?_ _ | refine blk_drew ?_ | refine blk_alloc ?_ _)); exact BK562.out) Tryd.underlying113 rfl (by kernel_rfl)) rfl ?_
              exact ⟨by first | rfl | (simp [errW_none, errW_some] <;> rfl) | (simp [*, errW_none, errW_some] <;> rfl), hbT HB.out⟩
            · rw [if_neg c14] at H
              exact absurd H (by simp)
          · rw [if_neg c13] at H
            exact absurd H (by simp)
      · replace c7 := Bool.eq_false_iff.mpr c7
        subst c7
        have H1 : ((refrainref5_digit.f (bt a0 a1)).bind fun t565 => (if t565 = true then ((refrainref5_run.f k a0 a1 false).bind fun t566 => (if a1 ≤ t566 then (if t566 ≤ (a0.size : Int) then ((refrainref5_small.f k (a0.extract (a1 : Int).toNat (t566 : Int).toNat)).bind fun t567 => (if t567 = true then (if t566 < (a0.size : Int) then (if 0 ≤ t566 then ((refrainref5_letter.f (bt a0 t566)).bind fun t568 => (if t568 = true then (some (0, (⟨#[]⟩ : ByteArray), 0, 0, a1, 51)) else (some (2, a0.extract (a1 : Int).toNat (t566 : Int).toNat, a1, t566, 0, 0)))) else (none)) else (some (2, a0.extract (a1 : Int).toNat (t566 : Int).toNat, a1, t566, 0, 0))) else (some (0, (⟨#[]⟩ : ByteArray), 0, 0, a1, 51)))) else (none)) else (none))) else (if (bt a0 a1) = 34 then ((refrainref5_str.f k a0 a1).bind fun bt569 => (some (bt569.1, bt569.2.1, bt569.2.2.1, bt569.2.2.2.1, bt569.2.2.2.2.1, bt569.2.2.2.2.2))) else ((refrainref5_signs.f).bind fun t575 => (refrainref5_one.l0 k a0 a1 t575 0))))) = some (r1, r2, r3, r4, r5, r6) := by rw [if_neg (show ¬ (false = true) by decide)] at H; exact H
        clear H
        have H := H1
        clear H1
        replace H := Option.bind_eq_some_iff.mp H
        obtain ⟨t565, A170, H⟩ := H
        replace H : (if t565 = true then ((refrainref5_run.f k a0 a1 false).bind fun t566 => (if a1 ≤ t566 then (if t566 ≤ (a0.size : Int) then ((refrainref5_small.f k (a0.extract (a1 : Int).toNat (t566 : Int).toNat)).bind fun t567 => (if t567 = true then (if t566 < (a0.size : Int) then (if 0 ≤ t566 then ((refrainref5_letter.f (bt a0 t566)).bind fun t568 => (if t568 = true then (some (0, (⟨#[]⟩ : ByteArray), 0, 0, a1, 51)) else (some (2, a0.extract (a1 : Int).toNat (t566 : Int).toNat, a1, t566, 0, 0)))) else (none)) else (some (2, a0.extract (a1 : Int).toNat (t566 : Int).toNat, a1, t566, 0, 0))) else (some (0, (⟨#[]⟩ : ByteArray), 0, 0, a1, 51)))) else (none)) else (none))) else (if (bt a0 a1) = 34 then ((refrainref5_str.f k a0 a1).bind fun bt569 => (some (bt569.1, bt569.2.1, bt569.2.2.1, bt569.2.2.2.1, bt569.2.2.2.2.1, bt569.2.2.2.2.2))) else ((refrainref5_signs.f).bind fun t575 => (refrainref5_one.l0 k a0 a1 t575 0)))) = some (r1, r2, r3, r4, r5, r6) := H
        have A17 := Aside0.mk A170
        clear A170
        by_cases c18 : t565 = true
        · subst c18
          have H1 : ((refrainref5_run.f k a0 a1 false).bind fun t566 => (if a1 ≤ t566 then (if t566 ≤ (a0.size : Int) then ((refrainref5_small.f k (a0.extract (a1 : Int).toNat (t566 : Int).toNat)).bind fun t567 => (if t567 = true then (if t566 < (a0.size : Int) then (if 0 ≤ t566 then ((refrainref5_letter.f (bt a0 t566)).bind fun t568 => (if t568 = true then (some (0, (⟨#[]⟩ : ByteArray), 0, 0, a1, 51)) else (some (2, a0.extract (a1 : Int).toNat (t566 : Int).toNat, a1, t566, 0, 0)))) else (none)) else (some (2, a0.extract (a1 : Int).toNat (t566 : Int).toNat, a1, t566, 0, 0))) else (some (0, (⟨#[]⟩ : ByteArray), 0, 0, a1, 51)))) else (none)) else (none))) = some (r1, r2, r3, r4, r5, r6) := by rw [if_pos rfl] at H; exact H
          clear H
          have H := H1
          clear H1
          replace H := Option.bind_eq_some_iff.mp H
          obtain ⟨t566, A190, H⟩ := H
          replace H : (if a1 ≤ t566 then (if t566 ≤ (a0.size : Int) then ((refrainref5_small.f k (a0.extract (a1 : Int).toNat (t566 : Int).toNat)).bind fun t567 => (if t567 = true then (if t566 < (a0.size : Int) then (if 0 ≤ t566 then ((refrainref5_letter.f (bt a0 t566)).bind fun t568 => (if t568 = true then (some (0, (⟨#[]⟩ : ByteArray), 0, 0, a1, 51)) else (some (2, a0.extract (a1 : Int).toNat (t566 : Int).toNat, a1, t566, 0, 0)))) else (none)) else (some (2, a0.extract (a1 : Int).toNat (t566 : Int).toNat, a1, t566, 0, 0))) else (some (0, (⟨#[]⟩ : ByteArray), 0, 0, a1, 51)))) else (none)) else (none)) = some (r1, r2, r3, r4, r5, r6) := H
          have A19 := Aside0.mk A190
          clear A190
          have c20b0 := eq_true (of_decide_eq_true (by first | (with_reducible assumption) | assumption) : 0 ≤ a1)
          by_cases c21 : a1 ≤ t566
          · rw [if_pos c21] at H
            have c21b0 := eq_true c21
            have c21b1 : decide (a1 ≤ t566) = true := decide_eq_true c21
            clear c21
            by_cases c22 : t566 ≤ (a0.size : Int)
            · rw [if_pos c22] at H
              have c22b0 := eq_true c22
              have c22b1 : decide (t566 ≤ (a0.size : Int)) = true := decide_eq_true c22
              clear c22
              replace H := Option.bind_eq_some_iff.mp H
              obtain ⟨t567, A230, H⟩ := H
              replace H : (if t567 = true then (if t566 < (a0.size : Int) then (if 0 ≤ t566 then ((refrainref5_letter.f (bt a0 t566)).bind fun t568 => (if t568 = true then (some (0, (⟨#[]⟩ : ByteArray), 0, 0, a1, 51)) else (some (2, a0.extract (a1 : Int).toNat (t566 : Int).toNat, a1, t566, 0, 0)))) else (none)) else (some (2, a0.extract (a1 : Int).toNat (t566 : Int).toNat, a1, t566, 0, 0))) else (some (0, (⟨#[]⟩ : ByteArray), 0, 0, a1, 51))) = some (r1, r2, r3, r4, r5, r6) := H
              have A23 := Aside0.mk A230
              clear A230
              by_cases c24 : t567 = true
              · subst c24
                have H1 : (if t566 < (a0.size : Int) then (if 0 ≤ t566 then ((refrainref5_letter.f (bt a0 t566)).bind fun t568 => (if t568 = true then (some (0, (⟨#[]⟩ : ByteArray), 0, 0, a1, 51)) else (some (2, a0.extract (a1 : Int).toNat (t566 : Int).toNat, a1, t566, 0, 0)))) else (none)) else (some (2, a0.extract (a1 : Int).toNat (t566 : Int).toNat, a1, t566, 0, 0))) = some (r1, r2, r3, r4, r5, r6) := by rw [if_pos rfl] at H; exact H
                clear H
                have H := H1
                clear H1
                by_cases c25 : t566 < (a0.size : Int)
                · rw [if_pos c25] at H
                  have c25b0 : decide (t566 < (a0.size : Int)) = true := decide_eq_true c25
                  clear c25
                  by_cases c26 : 0 ≤ t566
                  · rw [if_pos c26] at H
                    have c26b0 : decide (0 ≤ t566) = true := decide_eq_true c26
                    clear c26
                    replace H := Option.bind_eq_some_iff.mp H
                    obtain ⟨t568, A280, H⟩ := H
                    replace H : (if t568 = true then (some (0, (⟨#[]⟩ : ByteArray), 0, 0, a1, 51)) else (some (2, a0.extract (a1 : Int).toNat (t566 : Int).toNat, a1, t566, 0, 0))) = some (r1, r2, r3, r4, r5, r6) := H
                    have A28 := Aside0.mk A280
                    clear A280
                    by_cases c29 : t568 = true
                    · subst c29
                      have H1 : (some (0, (⟨#[]⟩ : ByteArray), 0, 0, a1, 51)) = some (r1, r2, r3, r4, r5, r6) := by rw [if_pos rfl] at H; exact H
                      clear H
                      have H := H1
                      clear H1
                      simp only [Option.some.injEq, Prod.mk.injEq] at H
                      obtain ⟨rfl, rfl, rfl, rfl, rfl, rfl⟩ := H
                      go_enter Tryd.func68, Tryd.ntmps68
                      go_wp2_with (first | ((with_reducible refine gate_dst (N := 4) rfl ?_); (try (refine gate_guard (by rfl) ?_; dsimp only)); refine box_event ?hg (N := 4) ?hd (cs := #[.int .i64 0, .string (⟨#[]⟩ : ByteArray), .int .i64 0, .int .i64 0, .int .i64 0, .int .i64 0]) (t := 113) ?hr ?_; (case hd => rfl); (case hg => rfl); (case hr => first | (go_simp; done) | (go_simp; rfl)); intro gb562 hg w30 hbox hb; have BK562 := Aside0.mk hbox; have GW562 := geA hg HB; have GE562 := geA hg HB; replace HB := bsA HB hb; clear hb hbox hg; have p5 : 0 ≤ (a1 : Int) := of_decide_eq_true (by first | (with_reducible assumption) | assumption); have q5 : a1 < (a0.size : Int) := of_decide_eq_true (by first | (with_reducible assumption) | assumption); have hx5 := bt_at a0 a1; replace p5 := eq_true p5; replace q5 := eq_true q5) | (go_at_call 82; (with_reducible refine (refrainref5_letter.calls (bt a0 a1) false _ A6.out).mono ?_); rintro e w' ⟨rfl, ⟨nd, rfl⟩⟩; (try first | exact ⟨rfl, _, World.drewN_drewN _ _ _⟩ | exact ⟨rfl, _, Eq.trans (World.drewN_drewN _ _ _) (congrArg (World.drewN _) (Nat.add_assoc _ _ _))⟩)) | (go_at_call 84; (with_reducible refine (refrainref5_digit.calls (bt a0 a1) true _ A17.out).mono ?_); rintro e w' ⟨rfl, ⟨nd, rfl⟩⟩; (try first | exact ⟨rfl, _, World.drewN_drewN _ _ _⟩ | exact ⟨rfl, _, Eq.trans (World.drewN_drewN _ _ _) (congrArg (World.drewN _) (Nat.add_assoc _ _ _))⟩)) | (go_at_call 83; (with_reducible refine (refrainref5_run.calls k a0 a1 false t566 _ A19.out).mono ?_); rintro e w' ⟨rfl, ⟨nd, rfl⟩⟩; (try first | exact ⟨rfl, _, World.drewN_drewN _ _ _⟩ | exact ⟨rfl, _, Eq.trans (World.drewN_drewN _ _ _) (congrArg (World.drewN _) (Nat.add_assoc _ _ _))⟩)) | (go_at_call 85; (with_reducible refine (refrainref5_small.calls k (a0.extract (a1 : Int).toNat (t566 : Int).toNat) true _ A23.out).mono ?_); rintro e w' ⟨rfl, ⟨nd, rfl⟩⟩; (try first | exact ⟨rfl, _, World.drewN_drewN _ _ _⟩ | exact ⟨rfl, _, Eq.trans (World.drewN_drewN _ _ _) (congrArg (World.drewN _) (Nat.add_assoc _ _ _))⟩); have p27 : 0 ≤ (t566 : Int) := of_decide_eq_true (by first | (with_reducible assumption) | assumption); have q27 : t566 < (a0.size : Int) := of_decide_eq_true (by first | (with_reducible assumption) | assumption); have hx27 := bt_at a0 t566; replace p27 := eq_true p27; replace q27 := eq_true q27) | (go_at_call 82; (with_reducible refine (refrainref5_letter.calls (bt a0 t566) true _ A28.out).mono ?_); rintro e w' ⟨rfl, ⟨nd, rfl⟩⟩; (try first | exact ⟨rfl, _, World.drewN_drewN _ _ _⟩ | exact ⟨rfl, _, Eq.trans (World.drewN_drewN _ _ _) (congrArg (World.drewN _) (Nat.add_assoc _ _ _))⟩); have hcz31_0 : w30.cell? ⟨gb562, 0, none⟩ = some (.int .i64 0) := (blk_cell BK562.out 0).trans rfl; have hcz31_1 : w30.cell? ⟨gb562, 1, none⟩ = some (.string (⟨#[]⟩ : ByteArray)) := (blk_cell BK562.out 1).trans rfl; have hcz31_2 : w30.cell? ⟨gb562, 2, none⟩ = some (.int .i64 0) := (blk_cell BK562.out 2).trans rfl; have hcz31_3 : w30.cell? ⟨gb562, 3, none⟩ = some (.int .i64 0) := (blk_cell BK562.out 3).trans rfl; have hcz31_4 : w30.cell? ⟨gb562, 4, none⟩ = some (.int .i64 0) := (blk_cell BK562.out 4).trans rfl; have hcz31_5 : w30.cell? ⟨gb562, 5, none⟩ = some (.int .i64 0) := (blk_cell BK562.out 5).trans rfl; have hfz31_0 := blk_frozen BK562.out 0; have hfz31_1 := blk_frozen BK562.out 1; have hfz31_2 := blk_frozen BK562.out 2; have hfz31_3 := blk_frozen BK562.out 3; have hfz31_4 := blk_frozen BK562.out 4; have hfz31_5 := blk_frozen BK562.out 5))
                      repeat (go_quiet (first | ((with_reducible refine gate_dst (N := 4) rfl ?_); (try (refine gate_guard (by rfl) ?_; dsimp only)); refine box_event ?hg (N := 4) ?hd (cs := #[.int .i64 0, .string (⟨#[]⟩ : ByteArray), .int .i64 0, .int .i64 0, .int .i64 0, .int .i64 0]) (t := 113) ?hr ?_; (case hd => rfl); (case hg => rfl); (case hr => first | (go_simp; done) | (go_simp; rfl)); intro gb562 hg w30 hbox hb; have BK562 := Aside0.mk hbox; have GW562 := geA hg HB; have GE562 := geA hg HB; replace HB := bsA HB hb; clear hb hbox hg; have p5 : 0 ≤ (a1 : Int) := of_decide_eq_true (by first | (with_reducible assumption) | assumption); have q5 : a1 < (a0.size : Int) := of_decide_eq_true (by first | (with_reducible assumption) | assumption); have hx5 := bt_at a0 a1; replace p5 := eq_true p5; replace q5 := eq_true q5) | (go_at_call 82; (with_reducible refine (refrainref5_letter.calls (bt a0 a1) false _ A6.out).mono ?_); rintro e w' ⟨rfl, ⟨nd, rfl⟩⟩; (try first | exact ⟨rfl, _, World.drewN_drewN _ _ _⟩ | exact ⟨rfl, _, Eq.trans (World.drewN_drewN _ _ _) (congrArg (World.drewN _) (Nat.add_assoc _ _ _))⟩)) | (go_at_call 84; (with_reducible refine (refrainref5_digit.calls (bt a0 a1) true _ A17.out).mono ?_); rintro e w' ⟨rfl, ⟨nd, rfl⟩⟩; (try first | exact ⟨rfl, _, World.drewN_drewN _ _ _⟩ | exact ⟨rfl, _, Eq.trans (World.drewN_drewN _ _ _) (congrArg (World.drewN _) (Nat.add_assoc _ _ _))⟩)) | (go_at_call 83; (with_reducible refine (refrainref5_run.calls k a0 a1 false t566 _ A19.out).mono ?_); rintro e w' ⟨rfl, ⟨nd, rfl⟩⟩; (try first | exact ⟨rfl, _, World.drewN_drewN _ _ _⟩ | exact ⟨rfl, _, Eq.trans (World.drewN_drewN _ _ _) (congrArg (World.drewN _) (Nat.add_assoc _ _ _))⟩)) | (go_at_call 85; (with_reducible refine (refrainref5_small.calls k (a0.extract (a1 : Int).toNat (t566 : Int).toNat) true _ A23.out).mono ?_); rintro e w' ⟨rfl, ⟨nd, rfl⟩⟩; (try first | exact ⟨rfl, _, World.drewN_drewN _ _ _⟩ | exact ⟨rfl, _, Eq.trans (World.drewN_drewN _ _ _) (congrArg (World.drewN _) (Nat.add_assoc _ _ _))⟩); have p27 : 0 ≤ (t566 : Int) := of_decide_eq_true (by first | (with_reducible assumption) | assumption); have q27 : t566 < (a0.size : Int) := of_decide_eq_true (by first | (with_reducible assumption) | assumption); have hx27 := bt_at a0 t566; replace p27 := eq_true p27; replace q27 := eq_true q27) | (go_at_call 82; (with_reducible refine (refrainref5_letter.calls (bt a0 t566) true _ A28.out).mono ?_); rintro e w' ⟨rfl, ⟨nd, rfl⟩⟩; (try first | exact ⟨rfl, _, World.drewN_drewN _ _ _⟩ | exact ⟨rfl, _, Eq.trans (World.drewN_drewN _ _ _) (congrArg (World.drewN _) (Nat.add_assoc _ _ _))⟩); have hcz31_0 : w30.cell? ⟨gb562, 0, none⟩ = some (.int .i64 0) := (blk_cell BK562.out 0).trans rfl; have hcz31_1 : w30.cell? ⟨gb562, 1, none⟩ = some (.string (⟨#[]⟩ : ByteArray)) := (blk_cell BK562.out 1).trans rfl; have hcz31_2 : w30.cell? ⟨gb562, 2, none⟩ = some (.int .i64 0) := (blk_cell BK562.out 2).trans rfl; have hcz31_3 : w30.cell? ⟨gb562, 3, none⟩ = some (.int .i64 0) := (blk_cell BK562.out 3).trans rfl; have hcz31_4 : w30.cell? ⟨gb562, 4, none⟩ = some (.int .i64 0) := (blk_cell BK562.out 4).trans rfl; have hcz31_5 : w30.cell? ⟨gb562, 5, none⟩ = some (.int .i64 0) := (blk_cell BK562.out 5).trans rfl; have hfz31_0 := blk_frozen BK562.out 0; have hfz31_1 := blk_frozen BK562.out 1; have hfz31_2 := blk_frozen BK562.out 2; have hfz31_3 := blk_frozen BK562.out 3; have hfz31_4 := blk_frozen BK562.out 4; have hfz31_5 := blk_frozen BK562.out 5)); try go_wp2_with (first | ((with_reducible refine gate_dst (N := 4) rfl ?_); (try (refine gate_guard (by rfl) ?_; dsimp only)); refine box_event ?hg (N := 4) ?hd (cs := #[.int .i64 0, .string (⟨#[]⟩ : ByteArray), .int .i64 0, .int .i64 0, .int .i64 0, .int .i64 0]) (t := 113) ?hr ?_; (case hd => rfl); (case hg => rfl); (case hr => first | (go_simp; done) | (go_simp; rfl)); intro gb562 hg w30 hbox hb; have BK562 := Aside0.mk hbox; have GW562 := geA hg HB; have GE562 := geA hg HB; replace HB := bsA HB hb; clear hb hbox hg; have p5 : 0 ≤ (a1 : Int) := of_decide_eq_true (by first | (with_reducible assumption) | assumption); have q5 : a1 < (a0.size : Int) := of_decide_eq_true (by first | (with_reducible assumption) | assumption); have hx5 := bt_at a0 a1; replace p5 := eq_true p5; replace q5 := eq_true q5) | (go_at_call 82; (with_reducible refine (refrainref5_letter.calls (bt a0 a1) false _ A6.out).mono ?_); rintro e w' ⟨rfl, ⟨nd, rfl⟩⟩; (try first | exact ⟨rfl, _, World.drewN_drewN _ _ _⟩ | exact ⟨rfl, _, Eq.trans (World.drewN_drewN _ _ _) (congrArg (World.drewN _) (Nat.add_assoc _ _ _))⟩)) | (go_at_call 84; (with_reducible refine (refrainref5_digit.calls (bt a0 a1) true _ A17.out).mono ?_); rintro e w' ⟨rfl, ⟨nd, rfl⟩⟩; (try first | exact ⟨rfl, _, World.drewN_drewN _ _ _⟩ | exact ⟨rfl, _, Eq.trans (World.drewN_drewN _ _ _) (congrArg (World.drewN _) (Nat.add_assoc _ _ _))⟩)) | (go_at_call 83; (with_reducible refine (refrainref5_run.calls k a0 a1 false t566 _ A19.out).mono ?_); rintro e w' ⟨rfl, ⟨nd, rfl⟩⟩; (try first | exact ⟨rfl, _, World.drewN_drewN _ _ _⟩ | exact ⟨rfl, _, Eq.trans (World.drewN_drewN _ _ _) (congrArg (World.drewN _) (Nat.add_assoc _ _ _))⟩)) | (go_at_call 85; (with_reducible refine (refrainref5_small.calls k (a0.extract (a1 : Int).toNat (t566 : Int).toNat) true _ A23.out).mono ?_); rintro e w' ⟨rfl, ⟨nd, rfl⟩⟩; (try first | exact ⟨rfl, _, World.drewN_drewN _ _ _⟩ | exact ⟨rfl, _, Eq.trans (World.drewN_drewN _ _ _) (congrArg (World.drewN _) (Nat.add_assoc _ _ _))⟩); have p27 : 0 ≤ (t566 : Int) := of_decide_eq_true (by first | (with_reducible assumption) | assumption); have q27 : t566 < (a0.size : Int) := of_decide_eq_true (by first | (with_reducible assumption) | assumption); have hx27 := bt_at a0 t566; replace p27 := eq_true p27; replace q27 := eq_true q27) | (go_at_call 82; (with_reducible refine (refrainref5_letter.calls (bt a0 t566) true _ A28.out).mono ?_); rintro e w' ⟨rfl, ⟨nd, rfl⟩⟩; (try first | exact ⟨rfl, _, World.drewN_drewN _ _ _⟩ | exact ⟨rfl, _, Eq.trans (World.drewN_drewN _ _ _) (congrArg (World.drewN _) (Nat.add_assoc _ _ _))⟩); have hcz31_0 : w30.cell? ⟨gb562, 0, none⟩ = some (.int .i64 0) := (blk_cell BK562.out 0).trans rfl; have hcz31_1 : w30.cell? ⟨gb562, 1, none⟩ = some (.string (⟨#[]⟩ : ByteArray)) := (blk_cell BK562.out 1).trans rfl; have hcz31_2 : w30.cell? ⟨gb562, 2, none⟩ = some (.int .i64 0) := (blk_cell BK562.out 2).trans rfl; have hcz31_3 : w30.cell? ⟨gb562, 3, none⟩ = some (.int .i64 0) := (blk_cell BK562.out 3).trans rfl; have hcz31_4 : w30.cell? ⟨gb562, 4, none⟩ = some (.int .i64 0) := (blk_cell BK562.out 4).trans rfl; have hcz31_5 : w30.cell? ⟨gb562, 5, none⟩ = some (.int .i64 0) := (blk_cell BK562.out 5).trans rfl; have hfz31_0 := blk_frozen BK562.out 0; have hfz31_1 := blk_frozen BK562.out 1; have hfz31_2 := blk_frozen BK562.out 2; have hfz31_3 := blk_frozen BK562.out 3; have hfz31_4 := blk_frozen BK562.out 4; have hfz31_5 := blk_frozen BK562.out 5)))
                      refine bodyPost_ret (results_cell_row rfl _ _ gb562 113 #[.int .i64 0, .string (⟨#[]⟩ : ByteArray), .int .i64 0, .int .i64 0, .int .i64 a1, .int .i64 51] (0, 0) _ rfl (by (with_reducible repeat (first | refine blk_drewN ?_ _ | refine blk_drew ?_ | refine blk_alloc ?_ _)); refine blk_put (cs := #[.int .i64 0, .string (⟨#[]⟩ : ByteArray), .int .i64 0, .int .i64 0, .int .i64 a1, .int .i64 0]) ?_ 5 _ rfl; (with_reducible repeat (first | refine blk_drewN ?_ _ | refine blk_drew ?_ | refine blk_alloc ?_ _)); refine blk_put (cs := #[.int .i64 0, .string (⟨#[]⟩ : ByteArray), .int .i64 0, .int .i64 0, .int .i64 0, .int .i64 0]) ?_ 4 _ rfl; (with_reducible repeat (first | refine blk_drewN ?_ _ | refine blk_drew ?_ | refine blk_alloc ?_ _)); refine blk_put (cs := #[.int .i64 0, .string (⟨#[]⟩ : ByteArray), .int .i64 0, .int .i64 0, .int .i64 0, .int .i64 0]) ?_ 3 _ rfl; (with_reducible repeat (first | refine blk_drewN ?_ _ | refine blk_drew ?_ | refine blk_alloc ?_ _)); refine blk_put (cs := #[.int .i64 0, .string (⟨#[]⟩ : ByteArray), .int .i64 0, .int .i64 0, .int .i64 0, .int .i64 0]) ?_ 2 _ rfl; (with_reducible repeat (first | refine blk_drewN ?_ _ | refine blk_drew ?_ | refine blk_alloc ?_ _)); refine blk_put (cs := #[.int .i64 0, .string (⟨#[]⟩ : ByteArray), .int .i64 0, .int .i64 0, .int .i64 0, .int .i64 0]) ?_ 1 _ rfl; (with_reducible repeat (first | refine blk_drewN ?_ _ | refine blk_drew ?_ | refine blk_alloc ?_ _)); refine blk_put (cs := #[.int .i64 0, .string (⟨#[]⟩ : ByteArray), .int .i64 0, .int .i64 0, .int .i64 0, .int .i64 0]) ?_ 0 _ rfl; (with_reducible repeat (first | refine blk_drewN ?_ _ | refine blk_drew ?_ | refine blk_alloc ?_ _)); exact BK562.out) Tryd.underlying113 rfl (by kernel_rfl)) rfl ?_
                      exact ⟨by first | rfl | (simp [errW_none, errW_some] <;> rfl) | (simp [*, errW_none, errW_some] <;> rfl), hbT HB.out⟩
                    · replace c29 := Bool.eq_false_iff.mpr c29
                      subst c29
                      have H1 : (some (2, a0.extract (a1 : Int).toNat (t566 : Int).toNat, a1, t566, 0, 0)) = some (r1, r2, r3, r4, r5, r6) := by rw [if_neg (show ¬ (false = true) by decide)] at H; exact H
                      clear H
                      have H := H1
                      clear H1
                      have c32b0 := eq_true (of_decide_eq_true (by first | (with_reducible assumption) | assumption) : 0 ≤ a1)
                      have c33b0 := eq_true (of_decide_eq_true (by first | (with_reducible assumption) | assumption) : a1 ≤ t566)
                      have c34b0 := eq_true (of_decide_eq_true (by first | (with_reducible assumption) | assumption) : t566 ≤ (a0.size : Int))
                      simp only [Option.some.injEq, Prod.mk.injEq] at H
                      obtain ⟨rfl, rfl, rfl, rfl, rfl, rfl⟩ := H
                      go_enter Tryd.func68, Tryd.ntmps68
                      go_wp2_with (first | ((with_reducible refine gate_dst (N := 4) rfl ?_); (try (refine gate_guard (by rfl) ?_; dsimp only)); refine box_event ?hg (N := 4) ?hd (cs := #[.int .i64 0, .string (⟨#[]⟩ : ByteArray), .int .i64 0, .int .i64 0, .int .i64 0, .int .i64 0]) (t := 113) ?hr ?_; (case hd => rfl); (case hg => rfl); (case hr => first | (go_simp; done) | (go_simp; rfl)); intro gb562 hg w35 hbox hb; have BK562 := Aside0.mk hbox; have GW562 := geA hg HB; have GE562 := geA hg HB; replace HB := bsA HB hb; clear hb hbox hg; have p5 : 0 ≤ (a1 : Int) := of_decide_eq_true (by first | (with_reducible assumption) | assumption); have q5 : a1 < (a0.size : Int) := of_decide_eq_true (by first | (with_reducible assumption) | assumption); have hx5 := bt_at a0 a1; replace p5 := eq_true p5; replace q5 := eq_true q5) | (go_at_call 82; (with_reducible refine (refrainref5_letter.calls (bt a0 a1) false _ A6.out).mono ?_); rintro e w' ⟨rfl, ⟨nd, rfl⟩⟩; (try first | exact ⟨rfl, _, World.drewN_drewN _ _ _⟩ | exact ⟨rfl, _, Eq.trans (World.drewN_drewN _ _ _) (congrArg (World.drewN _) (Nat.add_assoc _ _ _))⟩)) | (go_at_call 84; (with_reducible refine (refrainref5_digit.calls (bt a0 a1) true _ A17.out).mono ?_); rintro e w' ⟨rfl, ⟨nd, rfl⟩⟩; (try first | exact ⟨rfl, _, World.drewN_drewN _ _ _⟩ | exact ⟨rfl, _, Eq.trans (World.drewN_drewN _ _ _) (congrArg (World.drewN _) (Nat.add_assoc _ _ _))⟩)) | (go_at_call 83; (with_reducible refine (refrainref5_run.calls k a0 a1 false t566 _ A19.out).mono ?_); rintro e w' ⟨rfl, ⟨nd, rfl⟩⟩; (try first | exact ⟨rfl, _, World.drewN_drewN _ _ _⟩ | exact ⟨rfl, _, Eq.trans (World.drewN_drewN _ _ _) (congrArg (World.drewN _) (Nat.add_assoc _ _ _))⟩)) | (go_at_call 85; (with_reducible refine (refrainref5_small.calls k (a0.extract (a1 : Int).toNat (t566 : Int).toNat) true _ A23.out).mono ?_); rintro e w' ⟨rfl, ⟨nd, rfl⟩⟩; (try first | exact ⟨rfl, _, World.drewN_drewN _ _ _⟩ | exact ⟨rfl, _, Eq.trans (World.drewN_drewN _ _ _) (congrArg (World.drewN _) (Nat.add_assoc _ _ _))⟩); have p27 : 0 ≤ (t566 : Int) := of_decide_eq_true (by first | (with_reducible assumption) | assumption); have q27 : t566 < (a0.size : Int) := of_decide_eq_true (by first | (with_reducible assumption) | assumption); have hx27 := bt_at a0 t566; replace p27 := eq_true p27; replace q27 := eq_true q27) | (go_at_call 82; (with_reducible refine (refrainref5_letter.calls (bt a0 t566) false _ A28.out).mono ?_); rintro e w' ⟨rfl, ⟨nd, rfl⟩⟩; (try first | exact ⟨rfl, _, World.drewN_drewN _ _ _⟩ | exact ⟨rfl, _, Eq.trans (World.drewN_drewN _ _ _) (congrArg (World.drewN _) (Nat.add_assoc _ _ _))⟩); have hcz36_0 : w35.cell? ⟨gb562, 0, none⟩ = some (.int .i64 0) := (blk_cell BK562.out 0).trans rfl; have hcz36_1 : w35.cell? ⟨gb562, 1, none⟩ = some (.string (⟨#[]⟩ : ByteArray)) := (blk_cell BK562.out 1).trans rfl; have hcz36_2 : w35.cell? ⟨gb562, 2, none⟩ = some (.int .i64 0) := (blk_cell BK562.out 2).trans rfl; have hcz36_3 : w35.cell? ⟨gb562, 3, none⟩ = some (.int .i64 0) := (blk_cell BK562.out 3).trans rfl; have hcz36_4 : w35.cell? ⟨gb562, 4, none⟩ = some (.int .i64 0) := (blk_cell BK562.out 4).trans rfl; have hcz36_5 : w35.cell? ⟨gb562, 5, none⟩ = some (.int .i64 0) := (blk_cell BK562.out 5).trans rfl; have hfz36_0 := blk_frozen BK562.out 0; have hfz36_1 := blk_frozen BK562.out 1; have hfz36_2 := blk_frozen BK562.out 2; have hfz36_3 := blk_frozen BK562.out 3; have hfz36_4 := blk_frozen BK562.out 4; have hfz36_5 := blk_frozen BK562.out 5))
                      repeat (go_quiet (first | ((with_reducible refine gate_dst (N := 4) rfl ?_); (try (refine gate_guard (by rfl) ?_; dsimp only)); refine box_event ?hg (N := 4) ?hd (cs := #[.int .i64 0, .string (⟨#[]⟩ : ByteArray), .int .i64 0, .int .i64 0, .int .i64 0, .int .i64 0]) (t := 113) ?hr ?_; (case hd => rfl); (case hg => rfl); (case hr => first | (go_simp; done) | (go_simp; rfl)); intro gb562 hg w35 hbox hb; have BK562 := Aside0.mk hbox; have GW562 := geA hg HB; have GE562 := geA hg HB; replace HB := bsA HB hb; clear hb hbox hg; have p5 : 0 ≤ (a1 : Int) := of_decide_eq_true (by first | (with_reducible assumption) | assumption); have q5 : a1 < (a0.size : Int) := of_decide_eq_true (by first | (with_reducible assumption) | assumption); have hx5 := bt_at a0 a1; replace p5 := eq_true p5; replace q5 := eq_true q5) | (go_at_call 82; (with_reducible refine (refrainref5_letter.calls (bt a0 a1) false _ A6.out).mono ?_); rintro e w' ⟨rfl, ⟨nd, rfl⟩⟩; (try first | exact ⟨rfl, _, World.drewN_drewN _ _ _⟩ | exact ⟨rfl, _, Eq.trans (World.drewN_drewN _ _ _) (congrArg (World.drewN _) (Nat.add_assoc _ _ _))⟩)) | (go_at_call 84; (with_reducible refine (refrainref5_digit.calls (bt a0 a1) true _ A17.out).mono ?_); rintro e w' ⟨rfl, ⟨nd, rfl⟩⟩; (try first | exact ⟨rfl, _, World.drewN_drewN _ _ _⟩ | exact ⟨rfl, _, Eq.trans (World.drewN_drewN _ _ _) (congrArg (World.drewN _) (Nat.add_assoc _ _ _))⟩)) | (go_at_call 83; (with_reducible refine (refrainref5_run.calls k a0 a1 false t566 _ A19.out).mono ?_); rintro e w' ⟨rfl, ⟨nd, rfl⟩⟩; (try first | exact ⟨rfl, _, World.drewN_drewN _ _ _⟩ | exact ⟨rfl, _, Eq.trans (World.drewN_drewN _ _ _) (congrArg (World.drewN _) (Nat.add_assoc _ _ _))⟩)) | (go_at_call 85; (with_reducible refine (refrainref5_small.calls k (a0.extract (a1 : Int).toNat (t566 : Int).toNat) true _ A23.out).mono ?_); rintro e w' ⟨rfl, ⟨nd, rfl⟩⟩; (try first | exact ⟨rfl, _, World.drewN_drewN _ _ _⟩ | exact ⟨rfl, _, Eq.trans (World.drewN_drewN _ _ _) (congrArg (World.drewN _) (Nat.add_assoc _ _ _))⟩); have p27 : 0 ≤ (t566 : Int) := of_decide_eq_true (by first | (with_reducible assumption) | assumption); have q27 : t566 < (a0.size : Int) := of_decide_eq_true (by first | (with_reducible assumption) | assumption); have hx27 := bt_at a0 t566; replace p27 := eq_true p27; replace q27 := eq_true q27) | (go_at_call 82; (with_reducible refine (refrainref5_letter.calls (bt a0 t566) false _ A28.out).mono ?_); rintro e w' ⟨rfl, ⟨nd, rfl⟩⟩; (try first | exact ⟨rfl, _, World.drewN_drewN _ _ _⟩ | exact ⟨rfl, _, Eq.trans (World.drewN_drewN _ _ _) (congrArg (World.drewN _) (Nat.add_assoc _ _ _))⟩); have hcz36_0 : w35.cell? ⟨gb562, 0, none⟩ = some (.int .i64 0) := (blk_cell BK562.out 0).trans rfl; have hcz36_1 : w35.cell? ⟨gb562, 1, none⟩ = some (.string (⟨#[]⟩ : ByteArray)) := (blk_cell BK562.out 1).trans rfl; have hcz36_2 : w35.cell? ⟨gb562, 2, none⟩ = some (.int .i64 0) := (blk_cell BK562.out 2).trans rfl; have hcz36_3 : w35.cell? ⟨gb562, 3, none⟩ = some (.int .i64 0) := (blk_cell BK562.out 3).trans rfl; have hcz36_4 : w35.cell? ⟨gb562, 4, none⟩ = some (.int .i64 0) := (blk_cell BK562.out 4).trans rfl; have hcz36_5 : w35.cell? ⟨gb562, 5, none⟩ = some (.int .i64 0) := (blk_cell BK562.out 5).trans rfl; have hfz36_0 := blk_frozen BK562.out 0; have hfz36_1 := blk_frozen BK562.out 1; have hfz36_2 := blk_frozen BK562.out 2; have hfz36_3 := blk_frozen BK562.out 3; have hfz36_4 := blk_frozen BK562.out 4; have hfz36_5 := blk_frozen BK562.out 5)); try go_wp2_with (first | ((with_reducible refine gate_dst (N := 4) rfl ?_); (try (refine gate_guard (by rfl) ?_; dsimp only)); refine box_event ?hg (N := 4) ?hd (cs := #[.int .i64 0, .string (⟨#[]⟩ : ByteArray), .int .i64 0, .int .i64 0, .int .i64 0, .int .i64 0]) (t := 113) ?hr ?_; (case hd => rfl); (case hg => rfl); (case hr => first | (go_simp; done) | (go_simp; rfl)); intro gb562 hg w35 hbox hb; have BK562 := Aside0.mk hbox; have GW562 := geA hg HB; have GE562 := geA hg HB; replace HB := bsA HB hb; clear hb hbox hg; have p5 : 0 ≤ (a1 : Int) := of_decide_eq_true (by first | (with_reducible assumption) | assumption); have q5 : a1 < (a0.size : Int) := of_decide_eq_true (by first | (with_reducible assumption) | assumption); have hx5 := bt_at a0 a1; replace p5 := eq_true p5; replace q5 := eq_true q5) | (go_at_call 82; (with_reducible refine (refrainref5_letter.calls (bt a0 a1) false _ A6.out).mono ?_); rintro e w' ⟨rfl, ⟨nd, rfl⟩⟩; (try first | exact ⟨rfl, _, World.drewN_drewN _ _ _⟩ | exact ⟨rfl, _, Eq.trans (World.drewN_drewN _ _ _) (congrArg (World.drewN _) (Nat.add_assoc _ _ _))⟩)) | (go_at_call 84; (with_reducible refine (refrainref5_digit.calls (bt a0 a1) true _ A17.out).mono ?_); rintro e w' ⟨rfl, ⟨nd, rfl⟩⟩; (try first | exact ⟨rfl, _, World.drewN_drewN _ _ _⟩ | exact ⟨rfl, _, Eq.trans (World.drewN_drewN _ _ _) (congrArg (World.drewN _) (Nat.add_assoc _ _ _))⟩)) | (go_at_call 83; (with_reducible refine (refrainref5_run.calls k a0 a1 false t566 _ A19.out).mono ?_); rintro e w' ⟨rfl, ⟨nd, rfl⟩⟩; (try first | exact ⟨rfl, _, World.drewN_drewN _ _ _⟩ | exact ⟨rfl, _, Eq.trans (World.drewN_drewN _ _ _) (congrArg (World.drewN _) (Nat.add_assoc _ _ _))⟩)) | (go_at_call 85; (with_reducible refine (refrainref5_small.calls k (a0.extract (a1 : Int).toNat (t566 : Int).toNat) true _ A23.out).mono ?_); rintro e w' ⟨rfl, ⟨nd, rfl⟩⟩; (try first | exact ⟨rfl, _, World.drewN_drewN _ _ _⟩ | exact ⟨rfl, _, Eq.trans (World.drewN_drewN _ _ _) (congrArg (World.drewN _) (Nat.add_assoc _ _ _))⟩); have p27 : 0 ≤ (t566 : Int) := of_decide_eq_true (by first | (with_reducible assumption) | assumption); have q27 : t566 < (a0.size : Int) := of_decide_eq_true (by first | (with_reducible assumption) | assumption); have hx27 := bt_at a0 t566; replace p27 := eq_true p27; replace q27 := eq_true q27) | (go_at_call 82; (with_reducible refine (refrainref5_letter.calls (bt a0 t566) false _ A28.out).mono ?_); rintro e w' ⟨rfl, ⟨nd, rfl⟩⟩; (try first | exact ⟨rfl, _, World.drewN_drewN _ _ _⟩ | exact ⟨rfl, _, Eq.trans (World.drewN_drewN _ _ _) (congrArg (World.drewN _) (Nat.add_assoc _ _ _))⟩); have hcz36_0 : w35.cell? ⟨gb562, 0, none⟩ = some (.int .i64 0) := (blk_cell BK562.out 0).trans rfl; have hcz36_1 : w35.cell? ⟨gb562, 1, none⟩ = some (.string (⟨#[]⟩ : ByteArray)) := (blk_cell BK562.out 1).trans rfl; have hcz36_2 : w35.cell? ⟨gb562, 2, none⟩ = some (.int .i64 0) := (blk_cell BK562.out 2).trans rfl; have hcz36_3 : w35.cell? ⟨gb562, 3, none⟩ = some (.int .i64 0) := (blk_cell BK562.out 3).trans rfl; have hcz36_4 : w35.cell? ⟨gb562, 4, none⟩ = some (.int .i64 0) := (blk_cell BK562.out 4).trans rfl; have hcz36_5 : w35.cell? ⟨gb562, 5, none⟩ = some (.int .i64 0) := (blk_cell BK562.out 5).trans rfl; have hfz36_0 := blk_frozen BK562.out 0; have hfz36_1 := blk_frozen BK562.out 1; have hfz36_2 := blk_frozen BK562.out 2; have hfz36_3 := blk_frozen BK562.out 3; have hfz36_4 := blk_frozen BK562.out 4; have hfz36_5 := blk_frozen BK562.out 5)))
                      refine bodyPost_ret (results_cell_row rfl _ _ gb562 113 #[.int .i64 2, .string (a0.extract (a1 : Int).toNat (t566 : Int).toNat), .int .i64 a1, .int .i64 t566, .int .i64 0, .int .i64 0] (0, 0) _ rfl (by (with_reducible repeat (first | refine blk_drewN ?_ _ | refine blk_drew ?_ | refine blk_alloc ?_ _)); refine blk_put (cs := #[.int .i64 2, .string (a0.extract (a1 : Int).toNat (t566 : Int).toNat), .int .i64 a1, .int .i64 t566, .int .i64 0, .int .i64 0]) ?_ 5 _ rfl; (with_reducible repeat (first | refine blk_drewN ?_ _ | refine blk_drew ?_ | refine blk_alloc ?_ _)); refine blk_put (cs := #[.int .i64 2, .string (a0.extract (a1 : Int).toNat (t566 : Int).toNat), .int .i64 a1, .int .i64 t566, .int .i64 0, .int .i64 0]) ?_ 4 _ rfl; (with_reducible repeat (first | refine blk_drewN ?_ _ | refine blk_drew ?_ | refine blk_alloc ?_ _)); refine blk_put (cs := #[.int .i64 2, .string (a0.extract (a1 : Int).toNat (t566 : Int).toNat), .int .i64 a1, .int .i64 0, .int .i64 0, .int .i64 0]) ?_ 3 _ rfl; (with_reducible repeat (first | refine blk_drewN ?_ _ | refine blk_drew ?_ | refine blk_alloc ?_ _)); refine blk_put (cs := #[.int .i64 2, .string (a0.extract (a1 : Int).toNat (t566 : Int).toNat), .int .i64 0, .int .i64 0, .int .i64 0, .int .i64 0]) ?_ 2 _ rfl; (with_reducible repeat (first | refine blk_drewN ?_ _ | refine blk_drew ?_ | refine blk_alloc ?_ _)); refine blk_put (cs := #[.int .i64 2, .string (⟨#[]⟩ : ByteArray), .int .i64 0, .int .i64 0, .int .i64 0, .int .i64 0]) ?_ 1 _ rfl; (with_reducible repeat (first | refine blk_drewN ?_ _ | refine blk_drew ?_ | refine blk_alloc ?_ _)); refine blk_put (cs := #[.int .i64 0, .string (⟨#[]⟩ : ByteArray), .int .i64 0, .int .i64 0, .int .i64 0, .int .i64 0]) ?_ 0 _ rfl; (with_reducible repeat (first | refine blk_drewN ?_ _ | refine blk_drew ?_ | refine blk_alloc ?_ _)); exact BK562.out) Tryd.underlying113 rfl (by kernel_rfl)) rfl ?_
                      exact ⟨by first | rfl | (simp [errW_none, errW_some] <;> rfl) | (simp [*, errW_none, errW_some] <;> rfl), hbT HB.out⟩
                  · rw [if_neg c26] at H
                    exact absurd H (by simp)
                · rw [if_neg c25] at H
                  have c25b0 : decide (t566 < (a0.size : Int)) = false := decide_eq_false c25
                  clear c25
                  have c37b0 := eq_true (of_decide_eq_true (by first | (with_reducible assumption) | assumption) : 0 ≤ a1)
                  have c38b0 := eq_true (of_decide_eq_true (by first | (with_reducible assumption) | assumption) : a1 ≤ t566)
                  have c39b0 := eq_true (of_decide_eq_true (by first | (with_reducible assumption) | assumption) : t566 ≤ (a0.size : Int))
                  simp only [Option.some.injEq, Prod.mk.injEq] at H
                  obtain ⟨rfl, rfl, rfl, rfl, rfl, rfl⟩ := H
                  go_enter Tryd.func68, Tryd.ntmps68
                  go_wp2_with (first | ((with_reducible refine gate_dst (N := 4) rfl ?_); (try (refine gate_guard (by rfl) ?_; dsimp only)); refine box_event ?hg (N := 4) ?hd (cs := #[.int .i64 0, .string (⟨#[]⟩ : ByteArray), .int .i64 0, .int .i64 0, .int .i64 0, .int .i64 0]) (t := 113) ?hr ?_; (case hd => rfl); (case hg => rfl); (case hr => first | (go_simp; done) | (go_simp; rfl)); intro gb562 hg w40 hbox hb; have BK562 := Aside0.mk hbox; have GW562 := geA hg HB; have GE562 := geA hg HB; replace HB := bsA HB hb; clear hb hbox hg; have p5 : 0 ≤ (a1 : Int) := of_decide_eq_true (by first | (with_reducible assumption) | assumption); have q5 : a1 < (a0.size : Int) := of_decide_eq_true (by first | (with_reducible assumption) | assumption); have hx5 := bt_at a0 a1; replace p5 := eq_true p5; replace q5 := eq_true q5) | (go_at_call 82; (with_reducible refine (refrainref5_letter.calls (bt a0 a1) false _ A6.out).mono ?_); rintro e w' ⟨rfl, ⟨nd, rfl⟩⟩; (try first | exact ⟨rfl, _, World.drewN_drewN _ _ _⟩ | exact ⟨rfl, _, Eq.trans (World.drewN_drewN _ _ _) (congrArg (World.drewN _) (Nat.add_assoc _ _ _))⟩)) | (go_at_call 84; (with_reducible refine (refrainref5_digit.calls (bt a0 a1) true _ A17.out).mono ?_); rintro e w' ⟨rfl, ⟨nd, rfl⟩⟩; (try first | exact ⟨rfl, _, World.drewN_drewN _ _ _⟩ | exact ⟨rfl, _, Eq.trans (World.drewN_drewN _ _ _) (congrArg (World.drewN _) (Nat.add_assoc _ _ _))⟩)) | (go_at_call 83; (with_reducible refine (refrainref5_run.calls k a0 a1 false t566 _ A19.out).mono ?_); rintro e w' ⟨rfl, ⟨nd, rfl⟩⟩; (try first | exact ⟨rfl, _, World.drewN_drewN _ _ _⟩ | exact ⟨rfl, _, Eq.trans (World.drewN_drewN _ _ _) (congrArg (World.drewN _) (Nat.add_assoc _ _ _))⟩)) | (go_at_call 85; (with_reducible refine (refrainref5_small.calls k (a0.extract (a1 : Int).toNat (t566 : Int).toNat) true _ A23.out).mono ?_); rintro e w' ⟨rfl, ⟨nd, rfl⟩⟩; (try first | exact ⟨rfl, _, World.drewN_drewN _ _ _⟩ | exact ⟨rfl, _, Eq.trans (World.drewN_drewN _ _ _) (congrArg (World.drewN _) (Nat.add_assoc _ _ _))⟩); have hcz41_0 : w40.cell? ⟨gb562, 0, none⟩ = some (.int .i64 0) := (blk_cell BK562.out 0).trans rfl; have hcz41_1 : w40.cell? ⟨gb562, 1, none⟩ = some (.string (⟨#[]⟩ : ByteArray)) := (blk_cell BK562.out 1).trans rfl; have hcz41_2 : w40.cell? ⟨gb562, 2, none⟩ = some (.int .i64 0) := (blk_cell BK562.out 2).trans rfl; have hcz41_3 : w40.cell? ⟨gb562, 3, none⟩ = some (.int .i64 0) := (blk_cell BK562.out 3).trans rfl; have hcz41_4 : w40.cell? ⟨gb562, 4, none⟩ = some (.int .i64 0) := (blk_cell BK562.out 4).trans rfl; have hcz41_5 : w40.cell? ⟨gb562, 5, none⟩ = some (.int .i64 0) := (blk_cell BK562.out 5).trans rfl; have hfz41_0 := blk_frozen BK562.out 0; have hfz41_1 := blk_frozen BK562.out 1; have hfz41_2 := blk_frozen BK562.out 2; have hfz41_3 := blk_frozen BK562.out 3; have hfz41_4 := blk_frozen BK562.out 4; have hfz41_5 := blk_frozen BK562.out 5))
                  repeat (go_quiet (first | ((with_reducible refine gate_dst (N := 4) rfl ?_); (try (refine gate_guard (by rfl) ?_; dsimp only)); refine box_event ?hg (N := 4) ?hd (cs := #[.int .i64 0, .string (⟨#[]⟩ : ByteArray), .int .i64 0, .int .i64 0, .int .i64 0, .int .i64 0]) (t := 113) ?hr ?_; (case hd => rfl); (case hg => rfl); (case hr => first | (go_simp; done) | (go_simp; rfl)); intro gb562 hg w40 hbox hb; have BK562 := Aside0.mk hbox; have GW562 := geA hg HB; have GE562 := geA hg HB; replace HB := bsA HB hb; clear hb hbox hg; have p5 : 0 ≤ (a1 : Int) := of_decide_eq_true (by first | (with_reducible assumption) | assumption); have q5 : a1 < (a0.size : Int) := of_decide_eq_true (by first | (with_reducible assumption) | assumption); have hx5 := bt_at a0 a1; replace p5 := eq_true p5; replace q5 := eq_true q5) | (go_at_call 82; (with_reducible refine (refrainref5_letter.calls (bt a0 a1) false _ A6.out).mono ?_); rintro e w' ⟨rfl, ⟨nd, rfl⟩⟩; (try first | exact ⟨rfl, _, World.drewN_drewN _ _ _⟩ | exact ⟨rfl, _, Eq.trans (World.drewN_drewN _ _ _) (congrArg (World.drewN _) (Nat.add_assoc _ _ _))⟩)) | (go_at_call 84; (with_reducible refine (refrainref5_digit.calls (bt a0 a1) true _ A17.out).mono ?_); rintro e w' ⟨rfl, ⟨nd, rfl⟩⟩; (try first | exact ⟨rfl, _, World.drewN_drewN _ _ _⟩ | exact ⟨rfl, _, Eq.trans (World.drewN_drewN _ _ _) (congrArg (World.drewN _) (Nat.add_assoc _ _ _))⟩)) | (go_at_call 83; (with_reducible refine (refrainref5_run.calls k a0 a1 false t566 _ A19.out).mono ?_); rintro e w' ⟨rfl, ⟨nd, rfl⟩⟩; (try first | exact ⟨rfl, _, World.drewN_drewN _ _ _⟩ | exact ⟨rfl, _, Eq.trans (World.drewN_drewN _ _ _) (congrArg (World.drewN _) (Nat.add_assoc _ _ _))⟩)) | (go_at_call 85; (with_reducible refine (refrainref5_small.calls k (a0.extract (a1 : Int).toNat (t566 : Int).toNat) true _ A23.out).mono ?_); rintro e w' ⟨rfl, ⟨nd, rfl⟩⟩; (try first | exact ⟨rfl, _, World.drewN_drewN _ _ _⟩ | exact ⟨rfl, _, Eq.trans (World.drewN_drewN _ _ _) (congrArg (World.drewN _) (Nat.add_assoc _ _ _))⟩); have hcz41_0 : w40.cell? ⟨gb562, 0, none⟩ = some (.int .i64 0) := (blk_cell BK562.out 0).trans rfl; have hcz41_1 : w40.cell? ⟨gb562, 1, none⟩ = some (.string (⟨#[]⟩ : ByteArray)) := (blk_cell BK562.out 1).trans rfl; have hcz41_2 : w40.cell? ⟨gb562, 2, none⟩ = some (.int .i64 0) := (blk_cell BK562.out 2).trans rfl; have hcz41_3 : w40.cell? ⟨gb562, 3, none⟩ = some (.int .i64 0) := (blk_cell BK562.out 3).trans rfl; have hcz41_4 : w40.cell? ⟨gb562, 4, none⟩ = some (.int .i64 0) := (blk_cell BK562.out 4).trans rfl; have hcz41_5 : w40.cell? ⟨gb562, 5, none⟩ = some (.int .i64 0) := (blk_cell BK562.out 5).trans rfl; have hfz41_0 := blk_frozen BK562.out 0; have hfz41_1 := blk_frozen BK562.out 1; have hfz41_2 := blk_frozen BK562.out 2; have hfz41_3 := blk_frozen BK562.out 3; have hfz41_4 := blk_frozen BK562.out 4; have hfz41_5 := blk_frozen BK562.out 5)); try go_wp2_with (first | ((with_reducible refine gate_dst (N := 4) rfl ?_); (try (refine gate_guard (by rfl) ?_; dsimp only)); refine box_event ?hg (N := 4) ?hd (cs := #[.int .i64 0, .string (⟨#[]⟩ : ByteArray), .int .i64 0, .int .i64 0, .int .i64 0, .int .i64 0]) (t := 113) ?hr ?_; (case hd => rfl); (case hg => rfl); (case hr => first | (go_simp; done) | (go_simp; rfl)); intro gb562 hg w40 hbox hb; have BK562 := Aside0.mk hbox; have GW562 := geA hg HB; have GE562 := geA hg HB; replace HB := bsA HB hb; clear hb hbox hg; have p5 : 0 ≤ (a1 : Int) := of_decide_eq_true (by first | (with_reducible assumption) | assumption); have q5 : a1 < (a0.size : Int) := of_decide_eq_true (by first | (with_reducible assumption) | assumption); have hx5 := bt_at a0 a1; replace p5 := eq_true p5; replace q5 := eq_true q5) | (go_at_call 82; (with_reducible refine (refrainref5_letter.calls (bt a0 a1) false _ A6.out).mono ?_); rintro e w' ⟨rfl, ⟨nd, rfl⟩⟩; (try first | exact ⟨rfl, _, World.drewN_drewN _ _ _⟩ | exact ⟨rfl, _, Eq.trans (World.drewN_drewN _ _ _) (congrArg (World.drewN _) (Nat.add_assoc _ _ _))⟩)) | (go_at_call 84; (with_reducible refine (refrainref5_digit.calls (bt a0 a1) true _ A17.out).mono ?_); rintro e w' ⟨rfl, ⟨nd, rfl⟩⟩; (try first | exact ⟨rfl, _, World.drewN_drewN _ _ _⟩ | exact ⟨rfl, _, Eq.trans (World.drewN_drewN _ _ _) (congrArg (World.drewN _) (Nat.add_assoc _ _ _))⟩)) | (go_at_call 83; (with_reducible refine (refrainref5_run.calls k a0 a1 false t566 _ A19.out).mono ?_); rintro e w' ⟨rfl, ⟨nd, rfl⟩⟩; (try first | exact ⟨rfl, _, World.drewN_drewN _ _ _⟩ | exact ⟨rfl, _, Eq.trans (World.drewN_drewN _ _ _) (congrArg (World.drewN _) (Nat.add_assoc _ _ _))⟩)) | (go_at_call 85; (with_reducible refine (refrainref5_small.calls k (a0.extract (a1 : Int).toNat (t566 : Int).toNat) true _ A23.out).mono ?_); rintro e w' ⟨rfl, ⟨nd, rfl⟩⟩; (try first | exact ⟨rfl, _, World.drewN_drewN _ _ _⟩ | exact ⟨rfl, _, Eq.trans (World.drewN_drewN _ _ _) (congrArg (World.drewN _) (Nat.add_assoc _ _ _))⟩); have hcz41_0 : w40.cell? ⟨gb562, 0, none⟩ = some (.int .i64 0) := (blk_cell BK562.out 0).trans rfl; have hcz41_1 : w40.cell? ⟨gb562, 1, none⟩ = some (.string (⟨#[]⟩ : ByteArray)) := (blk_cell BK562.out 1).trans rfl; have hcz41_2 : w40.cell? ⟨gb562, 2, none⟩ = some (.int .i64 0) := (blk_cell BK562.out 2).trans rfl; have hcz41_3 : w40.cell? ⟨gb562, 3, none⟩ = some (.int .i64 0) := (blk_cell BK562.out 3).trans rfl; have hcz41_4 : w40.cell? ⟨gb562, 4, none⟩ = some (.int .i64 0) := (blk_cell BK562.out 4).trans rfl; have hcz41_5 : w40.cell? ⟨gb562, 5, none⟩ = some (.int .i64 0) := (blk_cell BK562.out 5).trans rfl; have hfz41_0 := blk_frozen BK562.out 0; have hfz41_1 := blk_frozen BK562.out 1; have hfz41_2 := blk_frozen BK562.out 2; have hfz41_3 := blk_frozen BK562.out 3; have hfz41_4 := blk_frozen BK562.out 4; have hfz41_5 := blk_frozen BK562.out 5)))
                  refine bodyPost_ret (results_cell_row rfl _ _ gb562 113 #[.int .i64 2, .string (a0.extract (a1 : Int).toNat (t566 : Int).toNat), .int .i64 a1, .int .i64 t566, .int .i64 0, .int .i64 0] (0, 0) _ rfl (by (with_reducible repeat (first | refine blk_drewN ?_ _ | refine blk_drew ?_ | refine blk_alloc ?_ _)); refine blk_put (cs := #[.int .i64 2, .string (a0.extract (a1 : Int).toNat (t566 : Int).toNat), .int .i64 a1, .int .i64 t566, .int .i64 0, .int .i64 0]) ?_ 5 _ rfl; (with_reducible repeat (first | refine blk_drewN ?_ _ | refine blk_drew ?_ | refine blk_alloc ?_ _)); refine blk_put (cs := #[.int .i64 2, .string (a0.extract (a1 : Int).toNat (t566 : Int).toNat), .int .i64 a1, .int .i64 t566, .int .i64 0, .int .i64 0]) ?_ 4 _ rfl; (with_reducible repeat (first | refine blk_drewN ?_ _ | refine blk_drew ?_ | refine blk_alloc ?_ _)); refine blk_put (cs := #[.int .i64 2, .string (a0.extract (a1 : Int).toNat (t566 : Int).toNat), .int .i64 a1, .int .i64 0, .int .i64 0, .int .i64 0]) ?_ 3 _ rfl; (with_reducible repeat (first | refine blk_drewN ?_ _ | refine blk_drew ?_ | refine blk_alloc ?_ _)); refine blk_put (cs := #[.int .i64 2, .string (a0.extract (a1 : Int).toNat (t566 : Int).toNat), .int .i64 0, .int .i64 0, .int .i64 0, .int .i64 0]) ?_ 2 _ rfl; (with_reducible repeat (first | refine blk_drewN ?_ _ | refine blk_drew ?_ | refine blk_alloc ?_ _)); refine blk_put (cs := #[.int .i64 2, .string (⟨#[]⟩ : ByteArray), .int .i64 0, .int .i64 0, .int .i64 0, .int .i64 0]) ?_ 1 _ rfl; (with_reducible repeat (first | refine blk_drewN ?_ _ | refine blk_drew ?_ | refine blk_alloc ?_ _)); refine blk_put (cs := #[.int .i64 0, .string (⟨#[]⟩ : ByteArray), .int .i64 0, .int .i64 0, .int .i64 0, .int .i64 0]) ?_ 0 _ rfl; (with_reducible repeat (first | refine blk_drewN ?_ _ | refine blk_drew ?_ | refine blk_alloc ?_ _)); exact BK562.out) Tryd.underlying113 rfl (by kernel_rfl)) rfl ?_
                  exact ⟨by first | rfl | (simp [errW_none, errW_some] <;> rfl) | (simp [*, errW_none, errW_some] <;> rfl), hbT HB.out⟩
              · replace c24 := Bool.eq_false_iff.mpr c24
                subst c24
                have H1 : (some (0, (⟨#[]⟩ : ByteArray), 0, 0, a1, 51)) = some (r1, r2, r3, r4, r5, r6) := by rw [if_neg (show ¬ (false = true) by decide)] at H; exact H
                clear H
                have H := H1
                clear H1
                simp only [Option.some.injEq, Prod.mk.injEq] at H
                obtain ⟨rfl, rfl, rfl, rfl, rfl, rfl⟩ := H
                go_enter Tryd.func68, Tryd.ntmps68
                go_wp2_with (first | ((with_reducible refine gate_dst (N := 4) rfl ?_); (try (refine gate_guard (by rfl) ?_; dsimp only)); refine box_event ?hg (N := 4) ?hd (cs := #[.int .i64 0, .string (⟨#[]⟩ : ByteArray), .int .i64 0, .int .i64 0, .int .i64 0, .int .i64 0]) (t := 113) ?hr ?_; (case hd => rfl); (case hg => rfl); (case hr => first | (go_simp; done) | (go_simp; rfl)); intro gb562 hg w42 hbox hb; have BK562 := Aside0.mk hbox; have GW562 := geA hg HB; have GE562 := geA hg HB; replace HB := bsA HB hb; clear hb hbox hg; have p5 : 0 ≤ (a1 : Int) := of_decide_eq_true (by first | (with_reducible assumption) | assumption); have q5 : a1 < (a0.size : Int) := of_decide_eq_true (by first | (with_reducible assumption) | assumption); have hx5 := bt_at a0 a1; replace p5 := eq_true p5; replace q5 := eq_true q5) | (go_at_call 82; (with_reducible refine (refrainref5_letter.calls (bt a0 a1) false _ A6.out).mono ?_); rintro e w' ⟨rfl, ⟨nd, rfl⟩⟩; (try first | exact ⟨rfl, _, World.drewN_drewN _ _ _⟩ | exact ⟨rfl, _, Eq.trans (World.drewN_drewN _ _ _) (congrArg (World.drewN _) (Nat.add_assoc _ _ _))⟩)) | (go_at_call 84; (with_reducible refine (refrainref5_digit.calls (bt a0 a1) true _ A17.out).mono ?_); rintro e w' ⟨rfl, ⟨nd, rfl⟩⟩; (try first | exact ⟨rfl, _, World.drewN_drewN _ _ _⟩ | exact ⟨rfl, _, Eq.trans (World.drewN_drewN _ _ _) (congrArg (World.drewN _) (Nat.add_assoc _ _ _))⟩)) | (go_at_call 83; (with_reducible refine (refrainref5_run.calls k a0 a1 false t566 _ A19.out).mono ?_); rintro e w' ⟨rfl, ⟨nd, rfl⟩⟩; (try first | exact ⟨rfl, _, World.drewN_drewN _ _ _⟩ | exact ⟨rfl, _, Eq.trans (World.drewN_drewN _ _ _) (congrArg (World.drewN _) (Nat.add_assoc _ _ _))⟩)) | (go_at_call 85; (with_reducible refine (refrainref5_small.calls k (a0.extract (a1 : Int).toNat (t566 : Int).toNat) false _ A23.out).mono ?_); rintro e w' ⟨rfl, ⟨nd, rfl⟩⟩; (try first | exact ⟨rfl, _, World.drewN_drewN _ _ _⟩ | exact ⟨rfl, _, Eq.trans (World.drewN_drewN _ _ _) (congrArg (World.drewN _) (Nat.add_assoc _ _ _))⟩); have hcz43_0 : w42.cell? ⟨gb562, 0, none⟩ = some (.int .i64 0) := (blk_cell BK562.out 0).trans rfl; have hcz43_1 : w42.cell? ⟨gb562, 1, none⟩ = some (.string (⟨#[]⟩ : ByteArray)) := (blk_cell BK562.out 1).trans rfl; have hcz43_2 : w42.cell? ⟨gb562, 2, none⟩ = some (.int .i64 0) := (blk_cell BK562.out 2).trans rfl; have hcz43_3 : w42.cell? ⟨gb562, 3, none⟩ = some (.int .i64 0) := (blk_cell BK562.out 3).trans rfl; have hcz43_4 : w42.cell? ⟨gb562, 4, none⟩ = some (.int .i64 0) := (blk_cell BK562.out 4).trans rfl; have hcz43_5 : w42.cell? ⟨gb562, 5, none⟩ = some (.int .i64 0) := (blk_cell BK562.out 5).trans rfl; have hfz43_0 := blk_frozen BK562.out 0; have hfz43_1 := blk_frozen BK562.out 1; have hfz43_2 := blk_frozen BK562.out 2; have hfz43_3 := blk_frozen BK562.out 3; have hfz43_4 := blk_frozen BK562.out 4; have hfz43_5 := blk_frozen BK562.out 5))
                repeat (go_quiet (first | ((with_reducible refine gate_dst (N := 4) rfl ?_); (try (refine gate_guard (by rfl) ?_; dsimp only)); refine box_event ?hg (N := 4) ?hd (cs := #[.int .i64 0, .string (⟨#[]⟩ : ByteArray), .int .i64 0, .int .i64 0, .int .i64 0, .int .i64 0]) (t := 113) ?hr ?_; (case hd => rfl); (case hg => rfl); (case hr => first | (go_simp; done) | (go_simp; rfl)); intro gb562 hg w42 hbox hb; have BK562 := Aside0.mk hbox; have GW562 := geA hg HB; have GE562 := geA hg HB; replace HB := bsA HB hb; clear hb hbox hg; have p5 : 0 ≤ (a1 : Int) := of_decide_eq_true (by first | (with_reducible assumption) | assumption); have q5 : a1 < (a0.size : Int) := of_decide_eq_true (by first | (with_reducible assumption) | assumption); have hx5 := bt_at a0 a1; replace p5 := eq_true p5; replace q5 := eq_true q5) | (go_at_call 82; (with_reducible refine (refrainref5_letter.calls (bt a0 a1) false _ A6.out).mono ?_); rintro e w' ⟨rfl, ⟨nd, rfl⟩⟩; (try first | exact ⟨rfl, _, World.drewN_drewN _ _ _⟩ | exact ⟨rfl, _, Eq.trans (World.drewN_drewN _ _ _) (congrArg (World.drewN _) (Nat.add_assoc _ _ _))⟩)) | (go_at_call 84; (with_reducible refine (refrainref5_digit.calls (bt a0 a1) true _ A17.out).mono ?_); rintro e w' ⟨rfl, ⟨nd, rfl⟩⟩; (try first | exact ⟨rfl, _, World.drewN_drewN _ _ _⟩ | exact ⟨rfl, _, Eq.trans (World.drewN_drewN _ _ _) (congrArg (World.drewN _) (Nat.add_assoc _ _ _))⟩)) | (go_at_call 83; (with_reducible refine (refrainref5_run.calls k a0 a1 false t566 _ A19.out).mono ?_); rintro e w' ⟨rfl, ⟨nd, rfl⟩⟩; (try first | exact ⟨rfl, _, World.drewN_drewN _ _ _⟩ | exact ⟨rfl, _, Eq.trans (World.drewN_drewN _ _ _) (congrArg (World.drewN _) (Nat.add_assoc _ _ _))⟩)) | (go_at_call 85; (with_reducible refine (refrainref5_small.calls k (a0.extract (a1 : Int).toNat (t566 : Int).toNat) false _ A23.out).mono ?_); rintro e w' ⟨rfl, ⟨nd, rfl⟩⟩; (try first | exact ⟨rfl, _, World.drewN_drewN _ _ _⟩ | exact ⟨rfl, _, Eq.trans (World.drewN_drewN _ _ _) (congrArg (World.drewN _) (Nat.add_assoc _ _ _))⟩); have hcz43_0 : w42.cell? ⟨gb562, 0, none⟩ = some (.int .i64 0) := (blk_cell BK562.out 0).trans rfl; have hcz43_1 : w42.cell? ⟨gb562, 1, none⟩ = some (.string (⟨#[]⟩ : ByteArray)) := (blk_cell BK562.out 1).trans rfl; have hcz43_2 : w42.cell? ⟨gb562, 2, none⟩ = some (.int .i64 0) := (blk_cell BK562.out 2).trans rfl; have hcz43_3 : w42.cell? ⟨gb562, 3, none⟩ = some (.int .i64 0) := (blk_cell BK562.out 3).trans rfl; have hcz43_4 : w42.cell? ⟨gb562, 4, none⟩ = some (.int .i64 0) := (blk_cell BK562.out 4).trans rfl; have hcz43_5 : w42.cell? ⟨gb562, 5, none⟩ = some (.int .i64 0) := (blk_cell BK562.out 5).trans rfl; have hfz43_0 := blk_frozen BK562.out 0; have hfz43_1 := blk_frozen BK562.out 1; have hfz43_2 := blk_frozen BK562.out 2; have hfz43_3 := blk_frozen BK562.out 3; have hfz43_4 := blk_frozen BK562.out 4; have hfz43_5 := blk_frozen BK562.out 5)); try go_wp2_with (first | ((with_reducible refine gate_dst (N := 4) rfl ?_); (try (refine gate_guard (by rfl) ?_; dsimp only)); refine box_event ?hg (N := 4) ?hd (cs := #[.int .i64 0, .string (⟨#[]⟩ : ByteArray), .int .i64 0, .int .i64 0, .int .i64 0, .int .i64 0]) (t := 113) ?hr ?_; (case hd => rfl); (case hg => rfl); (case hr => first | (go_simp; done) | (go_simp; rfl)); intro gb562 hg w42 hbox hb; have BK562 := Aside0.mk hbox; have GW562 := geA hg HB; have GE562 := geA hg HB; replace HB := bsA HB hb; clear hb hbox hg; have p5 : 0 ≤ (a1 : Int) := of_decide_eq_true (by first | (with_reducible assumption) | assumption); have q5 : a1 < (a0.size : Int) := of_decide_eq_true (by first | (with_reducible assumption) | assumption); have hx5 := bt_at a0 a1; replace p5 := eq_true p5; replace q5 := eq_true q5) | (go_at_call 82; (with_reducible refine (refrainref5_letter.calls (bt a0 a1) false _ A6.out).mono ?_); rintro e w' ⟨rfl, ⟨nd, rfl⟩⟩; (try first | exact ⟨rfl, _, World.drewN_drewN _ _ _⟩ | exact ⟨rfl, _, Eq.trans (World.drewN_drewN _ _ _) (congrArg (World.drewN _) (Nat.add_assoc _ _ _))⟩)) | (go_at_call 84; (with_reducible refine (refrainref5_digit.calls (bt a0 a1) true _ A17.out).mono ?_); rintro e w' ⟨rfl, ⟨nd, rfl⟩⟩; (try first | exact ⟨rfl, _, World.drewN_drewN _ _ _⟩ | exact ⟨rfl, _, Eq.trans (World.drewN_drewN _ _ _) (congrArg (World.drewN _) (Nat.add_assoc _ _ _))⟩)) | (go_at_call 83; (with_reducible refine (refrainref5_run.calls k a0 a1 false t566 _ A19.out).mono ?_); rintro e w' ⟨rfl, ⟨nd, rfl⟩⟩; (try first | exact ⟨rfl, _, World.drewN_drewN _ _ _⟩ | exact ⟨rfl, _, Eq.trans (World.drewN_drewN _ _ _) (congrArg (World.drewN _) (Nat.add_assoc _ _ _))⟩)) | (go_at_call 85; (with_reducible refine (refrainref5_small.calls k (a0.extract (a1 : Int).toNat (t566 : Int).toNat) false _ A23.out).mono ?_); rintro e w' ⟨rfl, ⟨nd, rfl⟩⟩; (try first | exact ⟨rfl, _, World.drewN_drewN _ _ _⟩ | exact ⟨rfl, _, Eq.trans (World.drewN_drewN _ _ _) (congrArg (World.drewN _) (Nat.add_assoc _ _ _))⟩); have hcz43_0 : w42.cell? ⟨gb562, 0, none⟩ = some (.int .i64 0) := (blk_cell BK562.out 0).trans rfl; have hcz43_1 : w42.cell? ⟨gb562, 1, none⟩ = some (.string (⟨#[]⟩ : ByteArray)) := (blk_cell BK562.out 1).trans rfl; have hcz43_2 : w42.cell? ⟨gb562, 2, none⟩ = some (.int .i64 0) := (blk_cell BK562.out 2).trans rfl; have hcz43_3 : w42.cell? ⟨gb562, 3, none⟩ = some (.int .i64 0) := (blk_cell BK562.out 3).trans rfl; have hcz43_4 : w42.cell? ⟨gb562, 4, none⟩ = some (.int .i64 0) := (blk_cell BK562.out 4).trans rfl; have hcz43_5 : w42.cell? ⟨gb562, 5, none⟩ = some (.int .i64 0) := (blk_cell BK562.out 5).trans rfl; have hfz43_0 := blk_frozen BK562.out 0; have hfz43_1 := blk_frozen BK562.out 1; have hfz43_2 := blk_frozen BK562.out 2; have hfz43_3 := blk_frozen BK562.out 3; have hfz43_4 := blk_frozen BK562.out 4; have hfz43_5 := blk_frozen BK562.out 5)))
                refine bodyPost_ret (results_cell_row rfl _ _ gb562 113 #[.int .i64 0, .string (⟨#[]⟩ : ByteArray), .int .i64 0, .int .i64 0, .int .i64 a1, .int .i64 51] (0, 0) _ rfl (by (with_reducible repeat (first | refine blk_drewN ?_ _ | refine blk_drew ?_ | refine blk_alloc ?_ _)); refine blk_put (cs := #[.int .i64 0, .string (⟨#[]⟩ : ByteArray), .int .i64 0, .int .i64 0, .int .i64 a1, .int .i64 0]) ?_ 5 _ rfl; (with_reducible repeat (first | refine blk_drewN ?_ _ | refine blk_drew ?_ | refine blk_alloc ?_ _)); refine blk_put (cs := #[.int .i64 0, .string (⟨#[]⟩ : ByteArray), .int .i64 0, .int .i64 0, .int .i64 0, .int .i64 0]) ?_ 4 _ rfl; (with_reducible repeat (first | refine blk_drewN ?_ _ | refine blk_drew ?_ | refine blk_alloc ?_ _)); refine blk_put (cs := #[.int .i64 0, .string (⟨#[]⟩ : ByteArray), .int .i64 0, .int .i64 0, .int .i64 0, .int .i64 0]) ?_ 3 _ rfl; (with_reducible repeat (first | refine blk_drewN ?_ _ | refine blk_drew ?_ | refine blk_alloc ?_ _)); refine blk_put (cs := #[.int .i64 0, .string (⟨#[]⟩ : ByteArray), .int .i64 0, .int .i64 0, .int .i64 0, .int .i64 0]) ?_ 2 _ rfl; (with_reducible repeat (first | refine blk_drewN ?_ _ | refine blk_drew ?_ | refine blk_alloc ?_ _)); refine blk_put (cs := #[.int .i64 0, .string (⟨#[]⟩ : ByteArray), .int .i64 0, .int .i64 0, .int .i64 0, .int .i64 0]) ?_ 1 _ rfl; (with_reducible repeat (first | refine blk_drewN ?_ _ | refine blk_drew ?_ | refine blk_alloc ?_ _)); refine blk_put (cs := #[.int .i64 0, .string (⟨#[]⟩ : ByteArray), .int .i64 0, .int .i64 0, .int .i64 0, .int .i64 0]) ?_ 0 _ rfl; (with_reducible repeat (first | refine blk_drewN ?_ _ | refine blk_drew ?_ | refine blk_alloc ?_ _)); exact BK562.out) Tryd.underlying113 rfl (by kernel_rfl)) rfl ?_
                exact ⟨by first | rfl | (simp [errW_none, errW_some] <;> rfl) | (simp [*, errW_none, errW_some] <;> rfl), hbT HB.out⟩
            · rw [if_neg c22] at H
              exact absurd H (by simp)
          · rw [if_neg c21] at H
            exact absurd H (by simp)
        · replace c18 := Bool.eq_false_iff.mpr c18
          subst c18
          have H1 : (if (bt a0 a1) = 34 then ((refrainref5_str.f k a0 a1).bind fun bt569 => (some (bt569.1, bt569.2.1, bt569.2.2.1, bt569.2.2.2.1, bt569.2.2.2.2.1, bt569.2.2.2.2.2))) else ((refrainref5_signs.f).bind fun t575 => (refrainref5_one.l0 k a0 a1 t575 0))) = some (r1, r2, r3, r4, r5, r6) := by rw [if_neg (show ¬ (false = true) by decide)] at H; exact H
          clear H
          have H := H1
          clear H1
          by_cases c44 : (bt a0 a1) = 34
          · rw [if_pos c44] at H
            have c44b0 : ((bt a0 a1) == 34) = true := beq_iff_eq.mpr c44
            have c44b1 : ((bt a0 a1) != 34) = false := bne_eq_false_iff_eq.mpr c44
            clear c44
            replace H := Option.bind_eq_some_iff.mp H
            obtain ⟨⟨t569, t570, t571, t572, t573, t574⟩, A450, H⟩ := H
            replace H : (some (t569, t570, t571, t572, t573, t574)) = some (r1, r2, r3, r4, r5, r6) := H
            have A45 := Aside0.mk A450
            clear A450
            simp only [Option.some.injEq, Prod.mk.injEq] at H
            obtain ⟨rfl, rfl, rfl, rfl, rfl, rfl⟩ := H
            go_enter Tryd.func68, Tryd.ntmps68
            go_wp2_with (first | ((with_reducible refine gate_dst (N := 4) rfl ?_); (try (refine gate_guard (by rfl) ?_; dsimp only)); refine box_event ?hg (N := 4) ?hd (cs := #[.int .i64 0, .string (⟨#[]⟩ : ByteArray), .int .i64 0, .int .i64 0, .int .i64 0, .int .i64 0]) (t := 113) ?hr ?_; (case hd => rfl); (case hg => rfl); (case hr => first | (go_simp; done) | (go_simp; rfl)); intro gb562 hg w46 hbox hb; have BK562 := Aside0.mk hbox; have GW562 := geA hg HB; have GE562 := geA hg HB; replace HB := bsA HB hb; clear hb hbox hg; have p5 : 0 ≤ (a1 : Int) := of_decide_eq_true (by first | (with_reducible assumption) | assumption); have q5 : a1 < (a0.size : Int) := of_decide_eq_true (by first | (with_reducible assumption) | assumption); have hx5 := bt_at a0 a1; replace p5 := eq_true p5; replace q5 := eq_true q5) | (go_at_call 82; (with_reducible refine (refrainref5_letter.calls (bt a0 a1) false _ A6.out).mono ?_); rintro e w' ⟨rfl, ⟨nd, rfl⟩⟩; (try first | exact ⟨rfl, _, World.drewN_drewN _ _ _⟩ | exact ⟨rfl, _, Eq.trans (World.drewN_drewN _ _ _) (congrArg (World.drewN _) (Nat.add_assoc _ _ _))⟩)) | (go_at_call 84; (with_reducible refine (refrainref5_digit.calls (bt a0 a1) false _ A17.out).mono ?_); rintro e w' ⟨rfl, ⟨nd, rfl⟩⟩; (try first | exact ⟨rfl, _, World.drewN_drewN _ _ _⟩ | exact ⟨rfl, _, Eq.trans (World.drewN_drewN _ _ _) (congrArg (World.drewN _) (Nat.add_assoc _ _ _))⟩)) | (go_at_call 86; (with_reducible refine (refrainref5_str.calls k a0 a1 t569 t570 t571 t572 t573 t574 _ A45.out).mono ?_); rintro e w47 ⟨rfl, hb⟩; replace BK562 := bbA BK562 hb; replace HB := bsA HB hb; (try clear hb); (try clear hb2); (try clear hk); (try clear hi); have hcz48_0 : w47.cell? ⟨gb562, 0, none⟩ = some (.int .i64 0) := (blk_cell BK562.out 0).trans rfl; have hcz48_1 : w47.cell? ⟨gb562, 1, none⟩ = some (.string (⟨#[]⟩ : ByteArray)) := (blk_cell BK562.out 1).trans rfl; have hcz48_2 : w47.cell? ⟨gb562, 2, none⟩ = some (.int .i64 0) := (blk_cell BK562.out 2).trans rfl; have hcz48_3 : w47.cell? ⟨gb562, 3, none⟩ = some (.int .i64 0) := (blk_cell BK562.out 3).trans rfl; have hcz48_4 : w47.cell? ⟨gb562, 4, none⟩ = some (.int .i64 0) := (blk_cell BK562.out 4).trans rfl; have hcz48_5 : w47.cell? ⟨gb562, 5, none⟩ = some (.int .i64 0) := (blk_cell BK562.out 5).trans rfl; have hfz48_0 := blk_frozen BK562.out 0; have hfz48_1 := blk_frozen BK562.out 1; have hfz48_2 := blk_frozen BK562.out 2; have hfz48_3 := blk_frozen BK562.out 3; have hfz48_4 := blk_frozen BK562.out 4; have hfz48_5 := blk_frozen BK562.out 5))
            repeat (go_quiet (first | ((with_reducible refine gate_dst (N := 4) rfl ?_); (try (refine gate_guard (by rfl) ?_; dsimp only)); refine box_event ?hg (N := 4) ?hd (cs := #[.int .i64 0, .string (⟨#[]⟩ : ByteArray), .int .i64 0, .int .i64 0, .int .i64 0, .int .i64 0]) (t := 113) ?hr ?_; (case hd => rfl); (case hg => rfl); (case hr => first | (go_simp; done) | (go_simp; rfl)); intro gb562 hg w46 hbox hb; have BK562 := Aside0.mk hbox; have GW562 := geA hg HB; have GE562 := geA hg HB; replace HB := bsA HB hb; clear hb hbox hg; have p5 : 0 ≤ (a1 : Int) := of_decide_eq_true (by first | (with_reducible assumption) | assumption); have q5 : a1 < (a0.size : Int) := of_decide_eq_true (by first | (with_reducible assumption) | assumption); have hx5 := bt_at a0 a1; replace p5 := eq_true p5; replace q5 := eq_true q5) | (go_at_call 82; (with_reducible refine (refrainref5_letter.calls (bt a0 a1) false _ A6.out).mono ?_); rintro e w' ⟨rfl, ⟨nd, rfl⟩⟩; (try first | exact ⟨rfl, _, World.drewN_drewN _ _ _⟩ | exact ⟨rfl, _, Eq.trans (World.drewN_drewN _ _ _) (congrArg (World.drewN _) (Nat.add_assoc _ _ _))⟩)) | (go_at_call 84; (with_reducible refine (refrainref5_digit.calls (bt a0 a1) false _ A17.out).mono ?_); rintro e w' ⟨rfl, ⟨nd, rfl⟩⟩; (try first | exact ⟨rfl, _, World.drewN_drewN _ _ _⟩ | exact ⟨rfl, _, Eq.trans (World.drewN_drewN _ _ _) (congrArg (World.drewN _) (Nat.add_assoc _ _ _))⟩)) | (go_at_call 86; (with_reducible refine (refrainref5_str.calls k a0 a1 t569 t570 t571 t572 t573 t574 _ A45.out).mono ?_); rintro e w47 ⟨rfl, hb⟩; replace BK562 := bbA BK562 hb; replace HB := bsA HB hb; (try clear hb); (try clear hb2); (try clear hk); (try clear hi); have hcz48_0 : w47.cell? ⟨gb562, 0, none⟩ = some (.int .i64 0) := (blk_cell BK562.out 0).trans rfl; have hcz48_1 : w47.cell? ⟨gb562, 1, none⟩ = some (.string (⟨#[]⟩ : ByteArray)) := (blk_cell BK562.out 1).trans rfl; have hcz48_2 : w47.cell? ⟨gb562, 2, none⟩ = some (.int .i64 0) := (blk_cell BK562.out 2).trans rfl; have hcz48_3 : w47.cell? ⟨gb562, 3, none⟩ = some (.int .i64 0) := (blk_cell BK562.out 3).trans rfl; have hcz48_4 : w47.cell? ⟨gb562, 4, none⟩ = some (.int .i64 0) := (blk_cell BK562.out 4).trans rfl; have hcz48_5 : w47.cell? ⟨gb562, 5, none⟩ = some (.int .i64 0) := (blk_cell BK562.out 5).trans rfl; have hfz48_0 := blk_frozen BK562.out 0; have hfz48_1 := blk_frozen BK562.out 1; have hfz48_2 := blk_frozen BK562.out 2; have hfz48_3 := blk_frozen BK562.out 3; have hfz48_4 := blk_frozen BK562.out 4; have hfz48_5 := blk_frozen BK562.out 5)); try go_wp2_with (first | ((with_reducible refine gate_dst (N := 4) rfl ?_); (try (refine gate_guard (by rfl) ?_; dsimp only)); refine box_event ?hg (N := 4) ?hd (cs := #[.int .i64 0, .string (⟨#[]⟩ : ByteArray), .int .i64 0, .int .i64 0, .int .i64 0, .int .i64 0]) (t := 113) ?hr ?_; (case hd => rfl); (case hg => rfl); (case hr => first | (go_simp; done) | (go_simp; rfl)); intro gb562 hg w46 hbox hb; have BK562 := Aside0.mk hbox; have GW562 := geA hg HB; have GE562 := geA hg HB; replace HB := bsA HB hb; clear hb hbox hg; have p5 : 0 ≤ (a1 : Int) := of_decide_eq_true (by first | (with_reducible assumption) | assumption); have q5 : a1 < (a0.size : Int) := of_decide_eq_true (by first | (with_reducible assumption) | assumption); have hx5 := bt_at a0 a1; replace p5 := eq_true p5; replace q5 := eq_true q5) | (go_at_call 82; (with_reducible refine (refrainref5_letter.calls (bt a0 a1) false _ A6.out).mono ?_); rintro e w' ⟨rfl, ⟨nd, rfl⟩⟩; (try first | exact ⟨rfl, _, World.drewN_drewN _ _ _⟩ | exact ⟨rfl, _, Eq.trans (World.drewN_drewN _ _ _) (congrArg (World.drewN _) (Nat.add_assoc _ _ _))⟩)) | (go_at_call 84; (with_reducible refine (refrainref5_digit.calls (bt a0 a1) false _ A17.out).mono ?_); rintro e w' ⟨rfl, ⟨nd, rfl⟩⟩; (try first | exact ⟨rfl, _, World.drewN_drewN _ _ _⟩ | exact ⟨rfl, _, Eq.trans (World.drewN_drewN _ _ _) (congrArg (World.drewN _) (Nat.add_assoc _ _ _))⟩)) | (go_at_call 86; (with_reducible refine (refrainref5_str.calls k a0 a1 t569 t570 t571 t572 t573 t574 _ A45.out).mono ?_); rintro e w47 ⟨rfl, hb⟩; replace BK562 := bbA BK562 hb; replace HB := bsA HB hb; (try clear hb); (try clear hb2); (try clear hk); (try clear hi); have hcz48_0 : w47.cell? ⟨gb562, 0, none⟩ = some (.int .i64 0) := (blk_cell BK562.out 0).trans rfl; have hcz48_1 : w47.cell? ⟨gb562, 1, none⟩ = some (.string (⟨#[]⟩ : ByteArray)) := (blk_cell BK562.out 1).trans rfl; have hcz48_2 : w47.cell? ⟨gb562, 2, none⟩ = some (.int .i64 0) := (blk_cell BK562.out 2).trans rfl; have hcz48_3 : w47.cell? ⟨gb562, 3, none⟩ = some (.int .i64 0) := (blk_cell BK562.out 3).trans rfl; have hcz48_4 : w47.cell? ⟨gb562, 4, none⟩ = some (.int .i64 0) := (blk_cell BK562.out 4).trans rfl; have hcz48_5 : w47.cell? ⟨gb562, 5, none⟩ = some (.int .i64 0) := (blk_cell BK562.out 5).trans rfl; have hfz48_0 := blk_frozen BK562.out 0; have hfz48_1 := blk_frozen BK562.out 1; have hfz48_2 := blk_frozen BK562.out 2; have hfz48_3 := blk_frozen BK562.out 3; have hfz48_4 := blk_frozen BK562.out 4; have hfz48_5 := blk_frozen BK562.out 5)))
            refine bodyPost_ret (results_cell_row rfl _ _ gb562 113 #[.int .i64 t569, .string t570, .int .i64 t571, .int .i64 t572, .int .i64 t573, .int .i64 t574] (0, 0) _ rfl (by (with_reducible repeat (first | refine blk_drewN ?_ _ | refine blk_drew ?_ | refine blk_alloc ?_ _)); refine blk_put (cs := #[.int .i64 t569, .string t570, .int .i64 t571, .int .i64 t572, .int .i64 t573, .int .i64 0]) ?_ 5 _ rfl; (with_reducible repeat (first | refine blk_drewN ?_ _ | refine blk_drew ?_ | refine blk_alloc ?_ _)); refine blk_put (cs := #[.int .i64 t569, .string t570, .int .i64 t571, .int .i64 t572, .int .i64 0, .int .i64 0]) ?_ 4 _ rfl; (with_reducible repeat (first | refine blk_drewN ?_ _ | refine blk_drew ?_ | refine blk_alloc ?_ _)); refine blk_put (cs := #[.int .i64 t569, .string t570, .int .i64 t571, .int .i64 0, .int .i64 0, .int .i64 0]) ?_ 3 _ rfl; (with_reducible repeat (first | refine blk_drewN ?_ _ | refine blk_drew ?_ | refine blk_alloc ?_ _)); refine blk_put (cs := #[.int .i64 t569, .string t570, .int .i64 0, .int .i64 0, .int .i64 0, .int .i64 0]) ?_ 2 _ rfl; (with_reducible repeat (first | refine blk_drewN ?_ _ | refine blk_drew ?_ | refine blk_alloc ?_ _)); refine blk_put (cs := #[.int .i64 t569, .string (⟨#[]⟩ : ByteArray), .int .i64 0, .int .i64 0, .int .i64 0, .int .i64 0]) ?_ 1 _ rfl; (with_reducible repeat (first | refine blk_drewN ?_ _ | refine blk_drew ?_ | refine blk_alloc ?_ _)); refine blk_put (cs := #[.int .i64 0, .string (⟨#[]⟩ : ByteArray), .int .i64 0, .int .i64 0, .int .i64 0, .int .i64 0]) ?_ 0 _ rfl; (with_reducible repeat (first | refine blk_drewN ?_ _ | refine blk_drew ?_ | refine blk_alloc ?_ _)); exact BK562.out) Tryd.underlying113 rfl (by kernel_rfl)) rfl ?_
            exact ⟨by first | rfl | (simp [errW_none, errW_some] <;> rfl) | (simp [*, errW_none, errW_some] <;> rfl), hbT HB.out⟩
          · rw [if_neg c44] at H
            have c44b0 : ((bt a0 a1) == 34) = false := beq_eq_false_iff_ne.mpr c44
            have c44b1 : ((bt a0 a1) != 34) = true := bne_iff_ne.mpr c44
            replace H := Option.bind_eq_some_iff.mp H
            obtain ⟨t575, A490, H⟩ := H
            replace H : (refrainref5_one.l0 k a0 a1 t575 0) = some (r1, r2, r3, r4, r5, r6) := H
            have A49 := Aside0.mk A490
            clear A490
            have H' := Aside0.mk H
            clear H
            go_enter Tryd.func68, Tryd.ntmps68
            go_wp2_with (first | ((with_reducible refine gate_dst (N := 4) rfl ?_); (try (refine gate_guard (by rfl) ?_; dsimp only)); refine box_event ?hg (N := 4) ?hd (cs := #[.int .i64 0, .string (⟨#[]⟩ : ByteArray), .int .i64 0, .int .i64 0, .int .i64 0, .int .i64 0]) (t := 113) ?hr ?_; (case hd => rfl); (case hg => rfl); (case hr => first | (go_simp; done) | (go_simp; rfl)); intro gb562 hg w50 hbox hb; have BK562 := Aside0.mk hbox; have GW562 := geA hg HB; have GE562 := geA hg HB; replace HB := bsA HB hb; clear hb hbox hg; have p5 : 0 ≤ (a1 : Int) := of_decide_eq_true (by first | (with_reducible assumption) | assumption); have q5 : a1 < (a0.size : Int) := of_decide_eq_true (by first | (with_reducible assumption) | assumption); have hx5 := bt_at a0 a1; replace p5 := eq_true p5; replace q5 := eq_true q5) | (go_at_call 82; (with_reducible refine (refrainref5_letter.calls (bt a0 a1) false _ A6.out).mono ?_); rintro e w' ⟨rfl, ⟨nd, rfl⟩⟩; (try first | exact ⟨rfl, _, World.drewN_drewN _ _ _⟩ | exact ⟨rfl, _, Eq.trans (World.drewN_drewN _ _ _) (congrArg (World.drewN _) (Nat.add_assoc _ _ _))⟩)) | (go_at_call 84; (with_reducible refine (refrainref5_digit.calls (bt a0 a1) false _ A17.out).mono ?_); rintro e w' ⟨rfl, ⟨nd, rfl⟩⟩; (try first | exact ⟨rfl, _, World.drewN_drewN _ _ _⟩ | exact ⟨rfl, _, Eq.trans (World.drewN_drewN _ _ _) (congrArg (World.drewN _) (Nat.add_assoc _ _ _))⟩)) | (go_at_call 87; (with_reducible refine (refrainref5_signs.calls  t575 _ A49.out).mono ?_); rintro e w51 ⟨v576, rfl, ho0, hb⟩; have HO577 := Aside0.mk (Kd.R_lower ho0 (below_size (hbT HB.out))); replace BK562 := bbA BK562 hb; replace HB := bsA HB hb; (try clear hb); (try clear hb2); (try clear hk); (try clear hi); (try clear ho0)))
            repeat (go_quiet (first | ((with_reducible refine gate_dst (N := 4) rfl ?_); (try (refine gate_guard (by rfl) ?_; dsimp only)); refine box_event ?hg (N := 4) ?hd (cs := #[.int .i64 0, .string (⟨#[]⟩ : ByteArray), .int .i64 0, .int .i64 0, .int .i64 0, .int .i64 0]) (t := 113) ?hr ?_; (case hd => rfl); (case hg => rfl); (case hr => first | (go_simp; done) | (go_simp; rfl)); intro gb562 hg w50 hbox hb; have BK562 := Aside0.mk hbox; have GW562 := geA hg HB; have GE562 := geA hg HB; replace HB := bsA HB hb; clear hb hbox hg; have p5 : 0 ≤ (a1 : Int) := of_decide_eq_true (by first | (with_reducible assumption) | assumption); have q5 : a1 < (a0.size : Int) := of_decide_eq_true (by first | (with_reducible assumption) | assumption); have hx5 := bt_at a0 a1; replace p5 := eq_true p5; replace q5 := eq_true q5) | (go_at_call 82; (with_reducible refine (refrainref5_letter.calls (bt a0 a1) false _ A6.out).mono ?_); rintro e w' ⟨rfl, ⟨nd, rfl⟩⟩; (try first | exact ⟨rfl, _, World.drewN_drewN _ _ _⟩ | exact ⟨rfl, _, Eq.trans (World.drewN_drewN _ _ _) (congrArg (World.drewN _) (Nat.add_assoc _ _ _))⟩)) | (go_at_call 84; (with_reducible refine (refrainref5_digit.calls (bt a0 a1) false _ A17.out).mono ?_); rintro e w' ⟨rfl, ⟨nd, rfl⟩⟩; (try first | exact ⟨rfl, _, World.drewN_drewN _ _ _⟩ | exact ⟨rfl, _, Eq.trans (World.drewN_drewN _ _ _) (congrArg (World.drewN _) (Nat.add_assoc _ _ _))⟩)) | (go_at_call 87; (with_reducible refine (refrainref5_signs.calls  t575 _ A49.out).mono ?_); rintro e w51 ⟨v576, rfl, ho0, hb⟩; have HO577 := Aside0.mk (Kd.R_lower ho0 (below_size (hbT HB.out))); replace BK562 := bbA BK562 hb; replace HB := bsA HB hb; (try clear hb); (try clear hb2); (try clear hk); (try clear hi); (try clear ho0))); try go_wp2_with (first | ((with_reducible refine gate_dst (N := 4) rfl ?_); (try (refine gate_guard (by rfl) ?_; dsimp only)); refine box_event ?hg (N := 4) ?hd (cs := #[.int .i64 0, .string (⟨#[]⟩ : ByteArray), .int .i64 0, .int .i64 0, .int .i64 0, .int .i64 0]) (t := 113) ?hr ?_; (case hd => rfl); (case hg => rfl); (case hr => first | (go_simp; done) | (go_simp; rfl)); intro gb562 hg w50 hbox hb; have BK562 := Aside0.mk hbox; have GW562 := geA hg HB; have GE562 := geA hg HB; replace HB := bsA HB hb; clear hb hbox hg; have p5 : 0 ≤ (a1 : Int) := of_decide_eq_true (by first | (with_reducible assumption) | assumption); have q5 : a1 < (a0.size : Int) := of_decide_eq_true (by first | (with_reducible assumption) | assumption); have hx5 := bt_at a0 a1; replace p5 := eq_true p5; replace q5 := eq_true q5) | (go_at_call 82; (with_reducible refine (refrainref5_letter.calls (bt a0 a1) false _ A6.out).mono ?_); rintro e w' ⟨rfl, ⟨nd, rfl⟩⟩; (try first | exact ⟨rfl, _, World.drewN_drewN _ _ _⟩ | exact ⟨rfl, _, Eq.trans (World.drewN_drewN _ _ _) (congrArg (World.drewN _) (Nat.add_assoc _ _ _))⟩)) | (go_at_call 84; (with_reducible refine (refrainref5_digit.calls (bt a0 a1) false _ A17.out).mono ?_); rintro e w' ⟨rfl, ⟨nd, rfl⟩⟩; (try first | exact ⟨rfl, _, World.drewN_drewN _ _ _⟩ | exact ⟨rfl, _, Eq.trans (World.drewN_drewN _ _ _) (congrArg (World.drewN _) (Nat.add_assoc _ _ _))⟩)) | (go_at_call 87; (with_reducible refine (refrainref5_signs.calls  t575 _ A49.out).mono ?_); rintro e w51 ⟨v576, rfl, ho0, hb⟩; have HO577 := Aside0.mk (Kd.R_lower ho0 (below_size (hbT HB.out))); replace BK562 := bbA BK562 hb; replace HB := bsA HB hb; (try clear hb); (try clear hb2); (try clear hk); (try clear hi); (try clear ho0))))
            go_loopg [9] k (fun kq v9 w' => ∃ (x9_1 : Int) (x563000_1 : Int) (x563001_1 : ByteArray) (x563002_1 : Int) (x563003_1 : Int) (x563004_1 : Int) (x563005_1 : Int), v9 = .int .i64 x9_1 ∧ Aside0 (refrainref5_one.l0 kq a0 a1 t575 x9_1 = some (r1, r2, r3, r4, r5, r6)) ∧ Aside0 (kq ≤ k) ∧ Aside0 (Kd.R Kd.string 9 w' w.heap.size (fun _ => True) v576 t575) ∧ Aside0 (w'.heap[gb562]? = some (.cells #[.int .i64 x563000_1, .string x563001_1, .int .i64 x563002_1, .int .i64 x563003_1, .int .i64 x563004_1, .int .i64 x563005_1] 113 (0, 0))) ∧ Aside0 (Below w.heap.size w w'))
            case atStart => exact ⟨(0), (0), ((⟨#[]⟩ : ByteArray)), (0), (0), (0), (0), (by first | rfl | (simp; done) | (simp [*]; done) | (simp; unfold wrap64; omega) | (congr 1; (try rw [Bool.eq_iff_iff]); simp [List.isEmpty_iff]; done)), H', ⟨Nat.le_refl _⟩, ⟨by (with_reducible repeat (first | apply Kd.R_alloc | apply Kd.R_drewN | apply Kd.R_drew)); exact HO577.out⟩, ⟨bkT BK562.out⟩, ⟨hbT HB.out⟩⟩
            case round =>
              clear H'
              try clear c1
              try clear c2
              try clear p2
              try clear q2
              try clear hx2
              try clear c3
              try clear c3b0
              try clear c4
              try clear c4b0
              try clear p5
              try clear q5
              try clear hx5
              try clear c6
              try clear p6
              try clear c7
              try clear c9
              try clear c9b0
              try clear c12
              try clear c12b0
              try clear c13
              try clear c13b0
              try clear c13b1
              try clear c14
              try clear c14b0
              try clear c14b1
              try clear c18
              try clear c20
              try clear c20b0
              try clear c21
              try clear c21b0
              try clear c21b1
              try clear c22
              try clear c22b0
              try clear c22b1
              try clear c24
              try clear c25
              try clear c25b0
              try clear c26
              try clear c26b0
              try clear p27
              try clear q27
              try clear hx27
              try clear c29
              try clear c32
              try clear c32b0
              try clear c33
              try clear c33b0
              try clear c34
              try clear c34b0
              try clear c37
              try clear c37b0
              try clear c38
              try clear c38b0
              try clear c39
              try clear c39b0
              try clear c44
              try clear c44b0
              try clear c44b1
              try clear hcz11_0 hcz11_1 hcz11_2 hcz11_3 hcz11_4 hcz11_5
              try clear hcz16_0 hcz16_1 hcz16_2 hcz16_3 hcz16_4 hcz16_5
              try clear hcz31_0 hcz31_1 hcz31_2 hcz31_3 hcz31_4 hcz31_5
              try clear hcz36_0 hcz36_1 hcz36_2 hcz36_3 hcz36_4 hcz36_5
              try clear hcz41_0 hcz41_1 hcz41_2 hcz41_3 hcz41_4 hcz41_5
              try clear hcz43_0 hcz43_1 hcz43_2 hcz43_3 hcz43_4 hcz43_5
              try clear hcz48_0 hcz48_1 hcz48_2 hcz48_3 hcz48_4 hcz48_5
              try clear hfz11_0 hfz11_1 hfz11_2 hfz11_3 hfz11_4 hfz11_5
              try clear hfz16_0 hfz16_1 hfz16_2 hfz16_3 hfz16_4 hfz16_5
              try clear hfz31_0 hfz31_1 hfz31_2 hfz31_3 hfz31_4 hfz31_5
              try clear hfz36_0 hfz36_1 hfz36_2 hfz36_3 hfz36_4 hfz36_5
              try clear hfz41_0 hfz41_1 hfz41_2 hfz41_3 hfz41_4 hfz41_5
              try clear hfz43_0 hfz43_1 hfz43_2 hfz43_3 hfz43_4 hfz43_5
              try clear hfz48_0 hfz48_1 hfz48_2 hfz48_3 hfz48_4 hfz48_5
              try clear p27
              try clear p5
              try clear q27
              try clear q5
              obtain ⟨x9_1, x563000_1, x563001_1, x563002_1, x563003_1, x563004_1, x563005_1, rfl, HA, HK1, HO_8, BK562, HB⟩ := hrel
              cases gk with
              | zero => (have HA2 := HA.out; clear HA; revert HA2; rw [refrainref5_one.l0_zero]; intro h_; cases h_)
              | succ k1 =>
                have H := HA.out
                clear HA
                simp only [refrainref5_one.l0] at H
                by_cases c52 : x9_1 < (t575.length : Int)
                · rw [if_pos c52] at H
                  have c52b0 : decide (x9_1 < (t575.length : Int)) = true := decide_eq_true c52
                  clear c52
                  by_cases c53 : 0 ≤ x9_1
                  · rw [if_pos c53] at H
                    have c53b0 : decide (0 ≤ x9_1) = true := decide_eq_true c53
                    clear c53
                    by_cases c54 : (wrap64 (a1 + ((rdOf ByteArray.empty t575 x9_1).size : Int))) ≤ (a0.size : Int)
                    · rw [if_pos c54] at H
                      have c54b0 : decide ((wrap64 (a1 + ((rdOf ByteArray.empty t575 x9_1).size : Int))) ≤ (a0.size : Int)) = true := decide_eq_true c54
                      clear c54
                      by_cases c55 : 0 ≤ a1
                      · rw [if_pos c55] at H
                        have c55b0 := eq_true c55
                        have c55b1 : decide (0 ≤ a1) = true := decide_eq_true c55
                        clear c55
                        by_cases c56 : a1 ≤ (wrap64 (a1 + ((rdOf ByteArray.empty t575 x9_1).size : Int)))
                        · rw [if_pos c56] at H
                          have c56b0 := eq_true c56
                          have c56b1 : decide (a1 ≤ (wrap64 (a1 + ((rdOf ByteArray.empty t575 x9_1).size : Int)))) = true := decide_eq_true c56
                          have c57b0 := eq_true (of_decide_eq_true (by first | (with_reducible assumption) | assumption) : (wrap64 (a1 + ((rdOf ByteArray.empty t575 x9_1).size : Int))) ≤ (a0.size : Int))
                          by_cases c58 : (a0.extract (a1 : Int).toNat ((wrap64 (a1 + ((rdOf ByteArray.empty t575 x9_1).size : Int))) : Int).toNat).toList = (rdOf ByteArray.empty t575 x9_1).toList
                          · rw [if_pos c58] at H
                            have c58b0 : ((a0.extract (a1 : Int).toNat ((wrap64 (a1 + ((rdOf ByteArray.empty t575 x9_1).size : Int))) : Int).toNat).toList == (rdOf ByteArray.empty t575 x9_1).toList) = true := beq_iff_eq.mpr c58
                            have c58b1 : ((a0.extract (a1 : Int).toNat ((wrap64 (a1 + ((rdOf ByteArray.empty t575 x9_1).size : Int))) : Int).toNat).toList != (rdOf ByteArray.empty t575 x9_1).toList) = false := bne_eq_false_iff_eq.mpr c58
                            clear c58
                            simp only [Option.some.injEq, Prod.mk.injEq] at H
                            obtain ⟨rfl, rfl, rfl, rfl, rfl, rfl⟩ := H
                            obtain ⟨Ao59, co59, eo59⟩ := Kd.R_slice HO_8.out
                            subst eo59
                            have p578 : 0 ≤ (x9_1 : Int) := of_decide_eq_true (by first | (with_reducible assumption) | assumption)
                            have q578 : x9_1 < (t575.length : Int) := of_decide_eq_true (by first | (with_reducible assumption) | assumption)
                            obtain ⟨ad578, e578, hx578_0⟩ := Kd.at_string (Kd.R_reads' HO_8.out).2.2 x9_1 p578 q578
                            cases e578
                            replace p578 := eq_true p578
                            replace q578 := eq_true q578
                            have p579 : 0 ≤ (x9_1 : Int) := of_decide_eq_true (by first | (with_reducible assumption) | assumption)
                            have q579 : x9_1 < (t575.length : Int) := of_decide_eq_true (by first | (with_reducible assumption) | assumption)
                            obtain ⟨ad579, e579, hx579_0⟩ := Kd.at_string (Kd.R_reads' HO_8.out).2.2 x9_1 p579 q579
                            obtain rfl : ad578 = ad579 := (by injection e579)
                            replace p579 := eq_true p579
                            replace q579 := eq_true q579
                            have p580 : 0 ≤ (x9_1 : Int) := of_decide_eq_true (by first | (with_reducible assumption) | assumption)
                            have q580 : x9_1 < (t575.length : Int) := of_decide_eq_true (by first | (with_reducible assumption) | assumption)
                            obtain ⟨ad580, e580, hx580_0⟩ := Kd.at_string (Kd.R_reads' HO_8.out).2.2 x9_1 p580 q580
                            obtain rfl : ad578 = ad580 := (by injection e580)
                            replace p580 := eq_true p580
                            replace q580 := eq_true q580
                            have hcz60_0 : wr.cell? ⟨gb562, 0, none⟩ = some (.int .i64 x563000_1) := (blk_cell BK562.out 0).trans rfl; have hcz60_1 : wr.cell? ⟨gb562, 1, none⟩ = some (.string x563001_1) := (blk_cell BK562.out 1).trans rfl; have hcz60_2 : wr.cell? ⟨gb562, 2, none⟩ = some (.int .i64 x563002_1) := (blk_cell BK562.out 2).trans rfl; have hcz60_3 : wr.cell? ⟨gb562, 3, none⟩ = some (.int .i64 x563003_1) := (blk_cell BK562.out 3).trans rfl; have hcz60_4 : wr.cell? ⟨gb562, 4, none⟩ = some (.int .i64 x563004_1) := (blk_cell BK562.out 4).trans rfl; have hcz60_5 : wr.cell? ⟨gb562, 5, none⟩ = some (.int .i64 x563005_1) := (blk_cell BK562.out 5).trans rfl; have hfz60_0 := blk_frozen BK562.out 0; have hfz60_1 := blk_frozen BK562.out 1; have hfz60_2 := blk_frozen BK562.out 2; have hfz60_3 := blk_frozen BK562.out 3; have hfz60_4 := blk_frozen BK562.out 4; have hfz60_5 := blk_frozen BK562.out 5
                            go_wp2
                            repeat (go_quiet (fail); try go_wp2)
                            refine bodyPost_ret (results_cell_row rfl _ _ gb562 113 #[.int .i64 4, .string (rdOf ByteArray.empty t575 x9_1), .int .i64 a1, .int .i64 (wrap64 (a1 + ((rdOf ByteArray.empty t575 x9_1).size : Int))), .int .i64 0, .int .i64 0] (0, 0) _ rfl (by (with_reducible repeat (first | refine blk_drewN ?_ _ | refine blk_drew ?_ | refine blk_alloc ?_ _)); refine blk_put (cs := #[.int .i64 4, .string (rdOf ByteArray.empty t575 x9_1), .int .i64 a1, .int .i64 (wrap64 (a1 + ((rdOf ByteArray.empty t575 x9_1).size : Int))), .int .i64 0, .int .i64 x563005_1]) ?_ 5 _ rfl; (with_reducible repeat (first | refine blk_drewN ?_ _ | refine blk_drew ?_ | refine blk_alloc ?_ _)); refine blk_put (cs := #[.int .i64 4, .string (rdOf ByteArray.empty t575 x9_1), .int .i64 a1, .int .i64 (wrap64 (a1 + ((rdOf ByteArray.empty t575 x9_1).size : Int))), .int .i64 x563004_1, .int .i64 x563005_1]) ?_ 4 _ rfl; (with_reducible repeat (first | refine blk_drewN ?_ _ | refine blk_drew ?_ | refine blk_alloc ?_ _)); refine blk_put (cs := #[.int .i64 4, .string (rdOf ByteArray.empty t575 x9_1), .int .i64 a1, .int .i64 x563003_1, .int .i64 x563004_1, .int .i64 x563005_1]) ?_ 3 _ rfl; (with_reducible repeat (first | refine blk_drewN ?_ _ | refine blk_drew ?_ | refine blk_alloc ?_ _)); refine blk_put (cs := #[.int .i64 4, .string (rdOf ByteArray.empty t575 x9_1), .int .i64 x563002_1, .int .i64 x563003_1, .int .i64 x563004_1, .int .i64 x563005_1]) ?_ 2 _ rfl; (with_reducible repeat (first | refine blk_drewN ?_ _ | refine blk_drew ?_ | refine blk_alloc ?_ _)); refine blk_put (cs := #[.int .i64 4, .string x563001_1, .int .i64 x563002_1, .int .i64 x563003_1, .int .i64 x563004_1, .int .i64 x563005_1]) ?_ 1 _ rfl; (with_reducible repeat (first | refine blk_drewN ?_ _ | refine blk_drew ?_ | refine blk_alloc ?_ _)); refine blk_put (cs := #[.int .i64 x563000_1, .string x563001_1, .int .i64 x563002_1, .int .i64 x563003_1, .int .i64 x563004_1, .int .i64 x563005_1]) ?_ 0 _ rfl; (with_reducible repeat (first | refine blk_drewN ?_ _ | refine blk_drew ?_ | refine blk_alloc ?_ _)); exact BK562.out) Tryd.underlying113 rfl (by kernel_rfl)) rfl ?_
                            exact ⟨by first | rfl | (simp [errW_none, errW_some] <;> rfl) | (simp [*, errW_none, errW_some] <;> rfl), hbT HB.out⟩
                          · rw [if_neg c58] at H
                            have c58b0 : ((a0.extract (a1 : Int).toNat ((wrap64 (a1 + ((rdOf ByteArray.empty t575 x9_1).size : Int))) : Int).toNat).toList == (rdOf ByteArray.empty t575 x9_1).toList) = false := beq_eq_false_iff_ne.mpr c58
                            have c58b1 : ((a0.extract (a1 : Int).toNat ((wrap64 (a1 + ((rdOf ByteArray.empty t575 x9_1).size : Int))) : Int).toNat).toList != (rdOf ByteArray.empty t575 x9_1).toList) = true := bne_iff_ne.mpr c58
                            have H' := Aside0.mk H
                            clear H
                            obtain ⟨Ao61, co61, eo61⟩ := Kd.R_slice HO_8.out
                            subst eo61
                            have p578 : 0 ≤ (x9_1 : Int) := of_decide_eq_true (by first | (with_reducible assumption) | assumption)
                            have q578 : x9_1 < (t575.length : Int) := of_decide_eq_true (by first | (with_reducible assumption) | assumption)
                            obtain ⟨ad578, e578, hx578_0⟩ := Kd.at_string (Kd.R_reads' HO_8.out).2.2 x9_1 p578 q578
                            cases e578
                            replace p578 := eq_true p578
                            replace q578 := eq_true q578
                            have p579 : 0 ≤ (x9_1 : Int) := of_decide_eq_true (by first | (with_reducible assumption) | assumption)
                            have q579 : x9_1 < (t575.length : Int) := of_decide_eq_true (by first | (with_reducible assumption) | assumption)
                            obtain ⟨ad579, e579, hx579_0⟩ := Kd.at_string (Kd.R_reads' HO_8.out).2.2 x9_1 p579 q579
                            obtain rfl : ad578 = ad579 := (by injection e579)
                            replace p579 := eq_true p579
                            replace q579 := eq_true q579
                            go_wp2
                            repeat (go_quiet (fail); try go_wp2)
                            go_roundg k1
                            case measure => have := HK1.out; omega
                            case rel => exact ⟨(wrap64 (x9_1 + 1)), (x563000_1), (x563001_1), (x563002_1), (x563003_1), (x563004_1), (x563005_1), (by first | rfl | (simp; done) | (simp [*]; done) | (simp; unfold wrap64; omega) | (congr 1; (try rw [Bool.eq_iff_iff]); simp [List.isEmpty_iff]; done)), H', ⟨by have := HK1.out; omega⟩, ⟨by (with_reducible repeat (first | apply Kd.R_alloc | apply Kd.R_drewN | apply Kd.R_drew)); exact HO_8.out⟩, ⟨bkT BK562.out⟩, ⟨hbT HB.out⟩⟩
                        · rw [if_neg c56] at H
                          exact absurd H (by simp)
                      · rw [if_neg c55] at H
                        exact absurd H (by simp)
                    · rw [if_neg c54] at H
                      have c54b0 : decide ((wrap64 (a1 + ((rdOf ByteArray.empty t575 x9_1).size : Int))) ≤ (a0.size : Int)) = false := decide_eq_false c54
                      clear c54
                      have H' := Aside0.mk H
                      clear H
                      obtain ⟨Ao62, co62, eo62⟩ := Kd.R_slice HO_8.out
                      subst eo62
                      have p578 : 0 ≤ (x9_1 : Int) := of_decide_eq_true (by first | (with_reducible assumption) | assumption)
                      have q578 : x9_1 < (t575.length : Int) := of_decide_eq_true (by first | (with_reducible assumption) | assumption)
                      obtain ⟨ad578, e578, hx578_0⟩ := Kd.at_string (Kd.R_reads' HO_8.out).2.2 x9_1 p578 q578
                      cases e578
                      replace p578 := eq_true p578
                      replace q578 := eq_true q578
                      go_wp2
                      repeat (go_quiet (fail); try go_wp2)
                      go_roundg k1
                      case measure => have := HK1.out; omega
                      case rel => exact ⟨(wrap64 (x9_1 + 1)), (x563000_1), (x563001_1), (x563002_1), (x563003_1), (x563004_1), (x563005_1), (by first | rfl | (simp; done) | (simp [*]; done) | (simp; unfold wrap64; omega) | (congr 1; (try rw [Bool.eq_iff_iff]); simp [List.isEmpty_iff]; done)), H', ⟨by have := HK1.out; omega⟩, ⟨by (with_reducible repeat (first | apply Kd.R_alloc | apply Kd.R_drewN | apply Kd.R_drew)); exact HO_8.out⟩, ⟨bkT BK562.out⟩, ⟨hbT HB.out⟩⟩
                  · rw [if_neg c53] at H
                    exact absurd H (by simp)
                · rw [if_neg c52] at H
                  have c52b0 : decide (x9_1 < (t575.length : Int)) = false := decide_eq_false c52
                  clear c52
                  simp only [Option.some.injEq, Prod.mk.injEq] at H
                  obtain ⟨rfl, rfl, rfl, rfl, rfl, rfl⟩ := H
                  obtain ⟨Ao63, co63, eo63⟩ := Kd.R_slice HO_8.out
                  subst eo63
                  have hcz64_0 : wr.cell? ⟨gb562, 0, none⟩ = some (.int .i64 x563000_1) := (blk_cell BK562.out 0).trans rfl; have hcz64_1 : wr.cell? ⟨gb562, 1, none⟩ = some (.string x563001_1) := (blk_cell BK562.out 1).trans rfl; have hcz64_2 : wr.cell? ⟨gb562, 2, none⟩ = some (.int .i64 x563002_1) := (blk_cell BK562.out 2).trans rfl; have hcz64_3 : wr.cell? ⟨gb562, 3, none⟩ = some (.int .i64 x563003_1) := (blk_cell BK562.out 3).trans rfl; have hcz64_4 : wr.cell? ⟨gb562, 4, none⟩ = some (.int .i64 x563004_1) := (blk_cell BK562.out 4).trans rfl; have hcz64_5 : wr.cell? ⟨gb562, 5, none⟩ = some (.int .i64 x563005_1) := (blk_cell BK562.out 5).trans rfl; have hfz64_0 := blk_frozen BK562.out 0; have hfz64_1 := blk_frozen BK562.out 1; have hfz64_2 := blk_frozen BK562.out 2; have hfz64_3 := blk_frozen BK562.out 3; have hfz64_4 := blk_frozen BK562.out 4; have hfz64_5 := blk_frozen BK562.out 5
                  go_wp2
                  repeat (go_quiet (fail); try go_wp2)
                  refine bodyPost_ret (results_cell_row rfl _ _ gb562 113 #[.int .i64 0, .string (⟨#[]⟩ : ByteArray), .int .i64 0, .int .i64 0, .int .i64 a1, .int .i64 50] (0, 0) _ rfl (by (with_reducible repeat (first | refine blk_drewN ?_ _ | refine blk_drew ?_ | refine blk_alloc ?_ _)); refine blk_put (cs := #[.int .i64 0, .string (⟨#[]⟩ : ByteArray), .int .i64 0, .int .i64 0, .int .i64 a1, .int .i64 x563005_1]) ?_ 5 _ rfl; (with_reducible repeat (first | refine blk_drewN ?_ _ | refine blk_drew ?_ | refine blk_alloc ?_ _)); refine blk_put (cs := #[.int .i64 0, .string (⟨#[]⟩ : ByteArray), .int .i64 0, .int .i64 0, .int .i64 x563004_1, .int .i64 x563005_1]) ?_ 4 _ rfl; (with_reducible repeat (first | refine blk_drewN ?_ _ | refine blk_drew ?_ | refine blk_alloc ?_ _)); refine blk_put (cs := #[.int .i64 0, .string (⟨#[]⟩ : ByteArray), .int .i64 0, .int .i64 x563003_1, .int .i64 x563004_1, .int .i64 x563005_1]) ?_ 3 _ rfl; (with_reducible repeat (first | refine blk_drewN ?_ _ | refine blk_drew ?_ | refine blk_alloc ?_ _)); refine blk_put (cs := #[.int .i64 0, .string (⟨#[]⟩ : ByteArray), .int .i64 x563002_1, .int .i64 x563003_1, .int .i64 x563004_1, .int .i64 x563005_1]) ?_ 2 _ rfl; (with_reducible repeat (first | refine blk_drewN ?_ _ | refine blk_drew ?_ | refine blk_alloc ?_ _)); refine blk_put (cs := #[.int .i64 0, .string x563001_1, .int .i64 x563002_1, .int .i64 x563003_1, .int .i64 x563004_1, .int .i64 x563005_1]) ?_ 1 _ rfl; (with_reducible repeat (first | refine blk_drewN ?_ _ | refine blk_drew ?_ | refine blk_alloc ?_ _)); refine blk_put (cs := #[.int .i64 x563000_1, .string x563001_1, .int .i64 x563002_1, .int .i64 x563003_1, .int .i64 x563004_1, .int .i64 x563005_1]) ?_ 0 _ rfl; (with_reducible repeat (first | refine blk_drewN ?_ _ | refine blk_drew ?_ | refine blk_alloc ?_ _)); exact BK562.out) Tryd.underlying113 rfl (by kernel_rfl)) rfl ?_
                  exact ⟨by first | rfl | (simp [errW_none, errW_some] <;> rfl) | (simp [*, errW_none, errW_some] <;> rfl), hbT HB.out⟩
    · rw [if_neg c4] at H
      exact absurd H (by simp)
  · rw [if_neg c3] at H
    exact absurd H (by simp)

end Go.Proofs.YthmcapdakplhdaaDoor.Pr
end

/-! ## text Prx29 -/
section
namespace Go.Proofs.YthmcapdakplhdaaDoor.Pr
open Go.RowKit Go.Proofs.YthmcapdakplhdaaDoorW.PrintWords Go.Proofs.YthmcapdakplhdaaDoorW.PrintLast Go.Proofs.YthmcapdakplhdaaDoorW.PrintMore
attribute [local go_sem] max2_int min2_int max_two min_two max_three min_three max_four min_four   -- for this text's walks alone
attribute [local go_sem high] Go.Proofs.YthmcapdakplhdaaDoor.isSome_setCell
set_option maxRecDepth 100000
set_option linter.unusedVariables false
set_option linter.unusedSimpArgs false

/-! ### refrainref5_Scan: function 55 -/
def refrainref5_Scan.l0 : Nat → ByteArray → List (S44) → Int → Option ((List (S44)) × Int × Int)
  | 0, _, _, _ => none
  | k + 1, x0, x5, x6 => if x6 < (x0.size : Int) then ((refrainref5_one.f k x0 x6).bind fun bt585 => (if bt585.2.2.2.2.2 = 0 then (if x5.length < 4398046511104 then ((refrainref5_skip.f k x0 bt585.2.2.2.1).bind fun t595 => (refrainref5_Scan.l0 k x0 (x5 ++ [(⟨bt585.1, bt585.2.1, bt585.2.2.1⟩ : S44)]) t595)) else (none)) else (some (([] : List (S44)), bt585.2.2.2.2.1, bt585.2.2.2.2.2)))) else (if x5.length < 4398046511104 then (some ((x5 ++ [(⟨5, (⟨#[]⟩ : ByteArray), (x0.size : Int)⟩ : S44)]), 0, 0)) else (none))
def refrainref5_Scan.f (k : Nat) (a0 : ByteArray) : Option ((List (S44)) × Int × Int) := if (a0.size : Int) > 4096 then (some (([] : List (S44)), 0, 2)) else ((refrainref5_skip.f k a0 0).bind fun t581 => (refrainref5_Scan.l0 k a0 ([] : List (S44)) t581))
set_option maxRecDepth 100000 in
theorem refrainref5_Scan.l0_zero : ∀ y0 y1 y2, refrainref5_Scan.l0 0 y0 y1 y2 = none := fun _ _ _ => rfl
set_option maxRecDepth 100000 in
theorem refrainref5_Scan.mono_l : ∀ k, (∀ y0 y1 y2, LeO (refrainref5_Scan.l0 k y0 y1 y2) (refrainref5_Scan.l0 (k + 1) y0 y1 y2))
  | 0 => fun _ _ _ r h => by (unfold refrainref5_Scan.l0 at h; cases h)
  | k + 1 => by
    have ih0 := refrainref5_Scan.mono_l k
    · intro y0 y1 y2
      unfold refrainref5_Scan.l0
      repeat' first
      | (with_reducible exact ih0 _ _ _)
      | (with_reducible exact refrainref5_one.mono _ _ _)
      | (with_reducible exact refrainref5_skip.mono _ _ _)
      | (with_reducible exact LeO.refl _)
      | (with_reducible exact LeO.none _)
      | (with_reducible refine LeO.ite ?_ ?_)
      | (with_reducible refine LeO.bind ?_ (fun _ => ?_))
      | exact ih0 _ _ _
      | exact refrainref5_one.mono _ _ _
      | exact refrainref5_skip.mono _ _ _
      | exact LeO.none _
      | refine LeO.ite ?_ ?_
      | refine LeO.bind ?_ (fun _ => ?_)
set_option maxRecDepth 100000 in
theorem refrainref5_Scan.mono : ∀ a0 k, LeO (refrainref5_Scan.f k a0) (refrainref5_Scan.f (k + 1) a0) := by
  intro a0 k
  have ih0 := refrainref5_Scan.mono_l k
  unfold refrainref5_Scan.f
  repeat' first
      | (with_reducible exact ih0 _ _ _)
      | (with_reducible exact refrainref5_one.mono _ _ _)
      | (with_reducible exact refrainref5_skip.mono _ _ _)
      | (with_reducible exact LeO.refl _)
      | (with_reducible exact LeO.none _)
      | (with_reducible refine LeO.ite ?_ ?_)
      | (with_reducible refine LeO.bind ?_ (fun _ => ?_))
      | exact ih0 _ _ _
      | exact refrainref5_one.mono _ _ _
      | exact refrainref5_skip.mono _ _ _
      | exact LeO.none _
      | refine LeO.ite ?_ ?_
      | refine LeO.bind ?_ (fun _ => ?_)
set_option maxHeartbeats 8000000 in
set_option maxRecDepth 100000 in
theorem refrainref5_Scan.calls (k : Nat) (a0 : ByteArray) (r1 : List (S44)) (r2 : Int) (r3 : Int) (w : World) (h : refrainref5_Scan.f k a0 = some (r1, r2, r3)) :
    Calls Tryd.prog 55 #[.string a0] w fun e w' => ∃ v0_ : Value, e = .returned (.tuple #[v0_, .int .i64 r2, .int .i64 r3]) ∧ Kd.R k44 44 w' w.heap.size (fun _ => True) v0_ r1 ∧ Below w.heap.size w w' := by
  have hu113 := Tryd.underlying113
  have hu44 := Tryd.underlying44
  have HB := Aside0.mk (Below.refl w.heap.size w)
  have H : (if (a0.size : Int) > 4096 then (some (([] : List (S44)), 0, 2)) else ((refrainref5_skip.f k a0 0).bind fun t581 => (refrainref5_Scan.l0 k a0 ([] : List (S44)) t581))) = some (r1, r2, r3) := h
  clear h
  by_cases c2 : (a0.size : Int) > 4096
  · rw [if_pos c2] at H
    have c2b0 : decide (4096 < (a0.size : Int)) = true := decide_eq_true c2
    have c2b1 : decide (4096 < a0.size) = true := decide_eq_true (by omega)
    clear c2
    simp only [Option.some.injEq, Prod.mk.injEq] at H
    obtain ⟨rfl, rfl, rfl⟩ := H
    go_enter Tryd.func55, Tryd.ntmps55
    go_wp2
    repeat (go_quiet (fail); try go_wp2)
    go_ret3
    exact ⟨_, by first | rfl | (simp [errW_none, errW_some] <;> rfl) | (simp [*, errW_none, errW_some] <;> rfl), by first | exact Kd.R_nil _ _ _ _ _ | exact Kd.N_nil _ _ _ _ _ | exact Kd.V_nil _ _ _ _ _ | exact Kd.Q_nil _ _ _ _ _ | exact Kd.S_nil _ _ _ _ _, hbT HB.out⟩
  · rw [if_neg c2] at H
    have c2b0 : decide (4096 < (a0.size : Int)) = false := decide_eq_false c2
    have c2b1 : decide (4096 < a0.size) = false := decide_eq_false (by omega)
    clear c2
    replace H := Option.bind_eq_some_iff.mp H
    obtain ⟨t581, A30, H⟩ := H
    replace H : (refrainref5_Scan.l0 k a0 ([] : List (S44)) t581) = some (r1, r2, r3) := H
    have A3 := Aside0.mk A30
    clear A30
    have H' := Aside0.mk H
    clear H
    go_enter Tryd.func55, Tryd.ntmps55
    go_wp2_with (first | (go_at_call 67; (with_reducible refine (refrainref5_skip.calls k a0 0 t581 _ A3.out).mono ?_); rintro e w' ⟨rfl, ⟨nd, rfl⟩⟩; (try first | exact ⟨rfl, _, World.drewN_drewN _ _ _⟩ | exact ⟨rfl, _, Eq.trans (World.drewN_drewN _ _ _) (congrArg (World.drewN _) (Nat.add_assoc _ _ _))⟩)))
    repeat (go_quiet (first | (go_at_call 67; (with_reducible refine (refrainref5_skip.calls k a0 0 t581 _ A3.out).mono ?_); rintro e w' ⟨rfl, ⟨nd, rfl⟩⟩; (try first | exact ⟨rfl, _, World.drewN_drewN _ _ _⟩ | exact ⟨rfl, _, Eq.trans (World.drewN_drewN _ _ _) (congrArg (World.drewN _) (Nat.add_assoc _ _ _))⟩))); try go_wp2_with (first | (go_at_call 67; (with_reducible refine (refrainref5_skip.calls k a0 0 t581 _ A3.out).mono ?_); rintro e w' ⟨rfl, ⟨nd, rfl⟩⟩; (try first | exact ⟨rfl, _, World.drewN_drewN _ _ _⟩ | exact ⟨rfl, _, Eq.trans (World.drewN_drewN _ _ _) (congrArg (World.drewN _) (Nat.add_assoc _ _ _))⟩))))
    go_loopg [5, 6] k (fun kq v5 v6 w' => ∃ (x5_1 : List (S44)) (x6_1 : Int), v6 = .int .i64 x6_1 ∧ Aside0 (refrainref5_Scan.l0 kq a0 x5_1 x6_1 = some (r1, r2, r3)) ∧ Aside0 (kq ≤ k) ∧ Aside0 (Kd.R k44 44 w' w.heap.size (fun _ => True) v5 x5_1) ∧ Aside0 (Below w.heap.size w w'))
    case atStart => exact ⟨(([] : List (S44))), (t581), (by first | rfl | (simp; done) | (simp [*]; done) | (simp; unfold wrap64; omega) | (congr 1; (try rw [Bool.eq_iff_iff]); simp [List.isEmpty_iff]; done)), H', ⟨Nat.le_refl _⟩, ⟨by first | exact Kd.R_nil _ _ _ _ _ | exact Kd.N_nil _ _ _ _ _ | exact Kd.V_nil _ _ _ _ _ | exact Kd.Q_nil _ _ _ _ _ | exact Kd.S_nil _ _ _ _ _⟩, ⟨hbT HB.out⟩⟩
    case round =>
      clear H'
      try clear c2
      try clear c2b0
      try clear c2b1
      try clear p2
      obtain ⟨x5_1, x6_1, rfl, HA, HK1, HO_5, HB⟩ := hrel
      cases gk with
      | zero => (have HA2 := HA.out; clear HA; revert HA2; rw [refrainref5_Scan.l0_zero]; intro h_; cases h_)
      | succ k1 =>
        have H := HA.out
        clear HA
        simp only [refrainref5_Scan.l0] at H
        by_cases c4 : x6_1 < (a0.size : Int)
        · rw [if_pos c4] at H
          have c4b0 : decide (x6_1 < (a0.size : Int)) = true := decide_eq_true c4
          clear c4
          replace H := Option.bind_eq_some_iff.mp H
          obtain ⟨⟨t585, t586, t587, t588, t589, t590⟩, A50, H⟩ := H
          replace H : (if t590 = 0 then (if x5_1.length < 4398046511104 then ((refrainref5_skip.f k1 a0 t588).bind fun t595 => (refrainref5_Scan.l0 k1 a0 (x5_1 ++ [(⟨t585, t586, t587⟩ : S44)]) t595)) else (none)) else (some (([] : List (S44)), t589, t590))) = some (r1, r2, r3) := H
          have A5 := Aside0.mk A50
          clear A50
          by_cases c6 : t590 = 0
          · rw [if_pos c6] at H
            have c6b0 : (t590 == 0) = true := beq_iff_eq.mpr c6
            have c6b1 : (t590 != 0) = false := bne_eq_false_iff_eq.mpr c6
            clear c6
            by_cases c7 : x5_1.length < 4398046511104
            · rw [if_pos c7] at H
              have LMc7 := Aside0.mk c7
              clear c7
              obtain ⟨y592, hy592⟩ : ∃ y_ : List (S44), y_ = (x5_1 ++ [(⟨t585, t586, t587⟩ : S44)]) := ⟨_, rfl⟩
              replace H : ((refrainref5_skip.f k1 a0 t588).bind fun t595 => (refrainref5_Scan.l0 k1 a0 y592 t595)) = some (r1, r2, r3) := by first | (rw [hy592]; with_reducible exact H) | (have H2_ := (Option.bind_some _ _).symm.trans H; rw [hy592]; with_reducible exact H2_) | (have H2_ := (Option.bind_some _ _).symm.trans H; with_reducible exact H2_) | with_reducible exact H | (rw [hy592]; exact H) | exact H
              have Ny592 := Aside0.mk hy592
              clear hy592
              replace H := Option.bind_eq_some_iff.mp H
              obtain ⟨t595, A80, H⟩ := H
              replace H : (refrainref5_Scan.l0 k1 a0 y592 t595) = some (r1, r2, r3) := H
              have A8 := Aside0.mk A80
              clear A80
              have H' := Aside0.mk H
              clear H
              go_wp2_with (first | (go_at_call 68; (with_reducible refine (refrainref5_one.calls k1 a0 x6_1 t585 t586 t587 t588 t589 t590 _ A5.out).mono ?_); rintro e w9 ⟨rfl, hb⟩; replace HO_5 := Aside0.mk (Kd.R_below (by (with_reducible repeat (first | apply Kd.R_alloc | apply Kd.R_drewN | apply Kd.R_drew)); exact HO_5.out) hb); replace HB := bsA HB hb; (try clear hb); (try clear hb2); (try clear hk); (try clear hi)) | ((with_reducible refine gate_dst (N := 7) rfl ?_); refine box_event ?hg (N := 7) ?hd (cs := #[.int .i64 0, .string (⟨#[]⟩ : ByteArray), .int .i64 0, .int .i64 0, .int .i64 0, .int .i64 0]) (t := 113) ?hr ?_; (case hd => rfl); (case hg => rfl); (case hr => first | (go_simp; done) | (go_simp; rfl)); intro gb591 hg w10 hbox hb; have BK591 := Aside0.mk hbox; have GW591 := geA hg HB; have GE591 := geA hg HB; replace HO_5 := Aside0.mk (Kd.R_below (by (with_reducible repeat (first | apply Kd.R_alloc | apply Kd.R_drewN | apply Kd.R_drew)); exact HO_5.out) hb); replace HB := bsA HB hb; clear hb hbox hg; have hcz11_0 : w10.cell? ⟨gb591, 0, none⟩ = some (.int .i64 0) := (blk_cell BK591.out 0).trans rfl; have hcz11_1 : w10.cell? ⟨gb591, 1, none⟩ = some (.string (⟨#[]⟩ : ByteArray)) := (blk_cell BK591.out 1).trans rfl; have hcz11_2 : w10.cell? ⟨gb591, 2, none⟩ = some (.int .i64 0) := (blk_cell BK591.out 2).trans rfl; have hcz11_3 : w10.cell? ⟨gb591, 3, none⟩ = some (.int .i64 0) := (blk_cell BK591.out 3).trans rfl; have hcz11_4 : w10.cell? ⟨gb591, 4, none⟩ = some (.int .i64 0) := (blk_cell BK591.out 4).trans rfl; have hcz11_5 : w10.cell? ⟨gb591, 5, none⟩ = some (.int .i64 0) := (blk_cell BK591.out 5).trans rfl; have hfz11_0 := blk_frozen BK591.out 0; have hfz11_1 := blk_frozen BK591.out 1; have hfz11_2 := blk_frozen BK591.out 2; have hfz11_3 := blk_frozen BK591.out 3; have hfz11_4 := blk_frozen BK591.out 4; have hfz11_5 := blk_frozen BK591.out 5) | ((with_reducible refine gate_builtin (b := .append) (xs := #[.tmp 27, .tmp 30]) rfl ?_); at_builtin; refine Kd.R_append k44 (w0 := w) w.heap.size rfl (.tmp 27) (.tmp 30) 40 44 (.agg #[(.int .i64 0), (.string ⟨#[]⟩), (.int .i64 0)]) 32 rfl Tryd.underlying40 info44 rfl (by decide) (by omega) u5 x5_1 (⟨t585, t586, t587⟩ : S44) [.int .i64 t585, .string t586, .int .i64 t587] (fun _ => True) (fun _ => False) rfl (by first | (go_simp; done) | (go_simp; rfl)) ?aP (fun _ hk => hk.elim) ?aF ?aO ?aB ?aS ?aL ?_; (case aP => exact k44_mkM _ _ _ (⟨t585, t586, t587⟩ : S44)); (case aB => exact (hbT HB.out)); (case aF => exact (fun _ _ => trivial)); (case aO => exact (by (with_reducible repeat (first | apply Kd.R_alloc | apply Kd.R_drewN | apply Kd.R_drew)); exact Kd.R_mono (Kd.R_far (p := ⟨gb591, 5, none⟩) (Kd.R_far (p := ⟨gb591, 4, none⟩) (Kd.R_far (p := ⟨gb591, 3, none⟩) (Kd.R_far (p := ⟨gb591, 2, none⟩) (Kd.R_far (p := ⟨gb591, 1, none⟩) (Kd.R_far (p := ⟨gb591, 0, none⟩) (Kd.R_types HO_5.out BK591.out (by decide)) (fun _ hk => hk.2) (.int .i64 t585)) (fun _ hk => hk.2) (.string t586)) (fun _ hk => hk.2) (.int .i64 t587)) (fun _ hk => hk.2) (.int .i64 t588)) (fun _ hk => hk.2) (.int .i64 t589)) (fun _ hk => hk.2) (.int .i64 t590)) (fun _ hk => trivial))); (case aS => exact (below_size (hbT HB.out))); (case aL => have := LMc7.out; omega); intro v593 w12 ho hb hg hat; rw [← Ny592.out] at ho; have n0_ := Aside0.mk (blk_grown (g := gb591) (o := .cells #[.int .i64 t585, .string t586, .int .i64 t587, .int .i64 t588, .int .i64 t589, .int .i64 t590] 113 (0, 0)) (by (with_reducible repeat (first | refine blk_drewN ?_ _ | refine blk_drew ?_ | refine blk_alloc ?_ _)); refine blk_put (cs := #[.int .i64 t585, .string t586, .int .i64 t587, .int .i64 t588, .int .i64 t589, .int .i64 0]) ?_ 5 _ rfl; (with_reducible repeat (first | refine blk_drewN ?_ _ | refine blk_drew ?_ | refine blk_alloc ?_ _)); refine blk_put (cs := #[.int .i64 t585, .string t586, .int .i64 t587, .int .i64 t588, .int .i64 0, .int .i64 0]) ?_ 4 _ rfl; (with_reducible repeat (first | refine blk_drewN ?_ _ | refine blk_drew ?_ | refine blk_alloc ?_ _)); refine blk_put (cs := #[.int .i64 t585, .string t586, .int .i64 t587, .int .i64 0, .int .i64 0, .int .i64 0]) ?_ 3 _ rfl; (with_reducible repeat (first | refine blk_drewN ?_ _ | refine blk_drew ?_ | refine blk_alloc ?_ _)); refine blk_put (cs := #[.int .i64 t585, .string t586, .int .i64 0, .int .i64 0, .int .i64 0, .int .i64 0]) ?_ 2 _ rfl; (with_reducible repeat (first | refine blk_drewN ?_ _ | refine blk_drew ?_ | refine blk_alloc ?_ _)); refine blk_put (cs := #[.int .i64 t585, .string (⟨#[]⟩ : ByteArray), .int .i64 0, .int .i64 0, .int .i64 0, .int .i64 0]) ?_ 1 _ rfl; (with_reducible repeat (first | refine blk_drewN ?_ _ | refine blk_drew ?_ | refine blk_alloc ?_ _)); refine blk_put (cs := #[.int .i64 0, .string (⟨#[]⟩ : ByteArray), .int .i64 0, .int .i64 0, .int .i64 0, .int .i64 0]) ?_ 0 _ rfl; (with_reducible repeat (first | refine blk_drewN ?_ _ | refine blk_drew ?_ | refine blk_alloc ?_ _)); exact BK591.out) hg (Kd.R_ne HO_5.out BK591.out (by decide))); have n1_ := Aside0.mk (hb); have n2_ := Aside0.mk (ho); clear BK591; clear HB; clear HO_5; have BK591 := n0_; have HB := n1_; have HO594 := n2_; clear n0_ n1_ n2_; clear ho hb hg hat; have hcz13_0 : w12.cell? ⟨gb591, 0, none⟩ = some (.int .i64 t585) := (blk_cell BK591.out 0).trans rfl; have hcz13_1 : w12.cell? ⟨gb591, 1, none⟩ = some (.string t586) := (blk_cell BK591.out 1).trans rfl; have hcz13_2 : w12.cell? ⟨gb591, 2, none⟩ = some (.int .i64 t587) := (blk_cell BK591.out 2).trans rfl; have hcz13_3 : w12.cell? ⟨gb591, 3, none⟩ = some (.int .i64 t588) := (blk_cell BK591.out 3).trans rfl; have hcz13_4 : w12.cell? ⟨gb591, 4, none⟩ = some (.int .i64 t589) := (blk_cell BK591.out 4).trans rfl; have hcz13_5 : w12.cell? ⟨gb591, 5, none⟩ = some (.int .i64 t590) := (blk_cell BK591.out 5).trans rfl; have hfz13_0 := blk_frozen BK591.out 0; have hfz13_1 := blk_frozen BK591.out 1; have hfz13_2 := blk_frozen BK591.out 2; have hfz13_3 := blk_frozen BK591.out 3; have hfz13_4 := blk_frozen BK591.out 4; have hfz13_5 := blk_frozen BK591.out 5) | (go_at_call 67; (with_reducible refine (refrainref5_skip.calls k1 a0 t588 t595 _ A8.out).mono ?_); rintro e w' ⟨rfl, ⟨nd, rfl⟩⟩; (try first | exact ⟨rfl, _, World.drewN_drewN _ _ _⟩ | exact ⟨rfl, _, Eq.trans (World.drewN_drewN _ _ _) (congrArg (World.drewN _) (Nat.add_assoc _ _ _))⟩)))
              repeat (go_quiet (first | (go_at_call 68; (with_reducible refine (refrainref5_one.calls k1 a0 x6_1 t585 t586 t587 t588 t589 t590 _ A5.out).mono ?_); rintro e w9 ⟨rfl, hb⟩; replace HO_5 := Aside0.mk (Kd.R_below (by (with_reducible repeat (first | apply Kd.R_alloc | apply Kd.R_drewN | apply Kd.R_drew)); exact HO_5.out) hb); replace HB := bsA HB hb; (try clear hb); (try clear hb2); (try clear hk); (try clear hi)) | ((with_reducible refine gate_dst (N := 7) rfl ?_); refine box_event ?hg (N := 7) ?hd (cs := #[.int .i64 0, .string (⟨#[]⟩ : ByteArray), .int .i64 0, .int .i64 0, .int .i64 0, .int .i64 0]) (t := 113) ?hr ?_; (case hd => rfl); (case hg => rfl); (case hr => first | (go_simp; done) | (go_simp; rfl)); intro gb591 hg w10 hbox hb; have BK591 := Aside0.mk hbox; have GW591 := geA hg HB; have GE591 := geA hg HB; replace HO_5 := Aside0.mk (Kd.R_below (by (with_reducible repeat (first | apply Kd.R_alloc | apply Kd.R_drewN | apply Kd.R_drew)); exact HO_5.out) hb); replace HB := bsA HB hb; clear hb hbox hg; have hcz11_0 : w10.cell? ⟨gb591, 0, none⟩ = some (.int .i64 0) := (blk_cell BK591.out 0).trans rfl; have hcz11_1 : w10.cell? ⟨gb591, 1, none⟩ = some (.string (⟨#[]⟩ : ByteArray)) := (blk_cell BK591.out 1).trans rfl; have hcz11_2 : w10.cell? ⟨gb591, 2, none⟩ = some (.int .i64 0) := (blk_cell BK591.out 2).trans rfl; have hcz11_3 : w10.cell? ⟨gb591, 3, none⟩ = some (.int .i64 0) := (blk_cell BK591.out 3).trans rfl; have hcz11_4 : w10.cell? ⟨gb591, 4, none⟩ = some (.int .i64 0) := (blk_cell BK591.out 4).trans rfl; have hcz11_5 : w10.cell? ⟨gb591, 5, none⟩ = some (.int .i64 0) := (blk_cell BK591.out 5).trans rfl; have hfz11_0 := blk_frozen BK591.out 0; have hfz11_1 := blk_frozen BK591.out 1; have hfz11_2 := blk_frozen BK591.out 2; have hfz11_3 := blk_frozen BK591.out 3; have hfz11_4 := blk_frozen BK591.out 4; have hfz11_5 := blk_frozen BK591.out 5) | ((with_reducible refine gate_builtin (b := .append) (xs := #[.tmp 27, .tmp 30]) rfl ?_); at_builtin; refine Kd.R_append k44 (w0 := w) w.heap.size rfl (.tmp 27) (.tmp 30) 40 44 (.agg #[(.int .i64 0), (.string ⟨#[]⟩), (.int .i64 0)]) 32 rfl Tryd.underlying40 info44 rfl (by decide) (by omega) u5 x5_1 (⟨t585, t586, t587⟩ : S44) [.int .i64 t585, .string t586, .int .i64 t587] (fun _ => True) (fun _ => False) rfl (by first | (go_simp; done) | (go_simp; rfl)) ?aP (fun _ hk => hk.elim) ?aF ?aO ?aB ?aS ?aL ?_; (case aP => exact k44_mkM _ _ _ (⟨t585, t586, t587⟩ : S44)); (case aB => exact (hbT HB.out)); (case aF => exact (fun _ _ => trivial)); (case aO => exact (by (with_reducible repeat (first | apply Kd.R_alloc | apply Kd.R_drewN | apply Kd.R_drew)); exact Kd.R_mono (Kd.R_far (p := ⟨gb591, 5, none⟩) (Kd.R_far (p := ⟨gb591, 4, none⟩) (Kd.R_far (p := ⟨gb591, 3, none⟩) (Kd.R_far (p := ⟨gb591, 2, none⟩) (Kd.R_far (p := ⟨gb591, 1, none⟩) (Kd.R_far (p := ⟨gb591, 0, none⟩) (Kd.R_types HO_5.out BK591.out (by decide)) (fun _ hk => hk.2) (.int .i64 t585)) (fun _ hk => hk.2) (.string t586)) (fun _ hk => hk.2) (.int .i64 t587)) (fun _ hk => hk.2) (.int .i64 t588)) (fun _ hk => hk.2) (.int .i64 t589)) (fun _ hk => hk.2) (.int .i64 t590)) (fun _ hk => trivial))); (case aS => exact (below_size (hbT HB.out))); (case aL => have := LMc7.out; omega); intro v593 w12 ho hb hg hat; rw [← Ny592.out] at ho; have n0_ := Aside0.mk (blk_grown (g := gb591) (o := .cells #[.int .i64 t585, .string t586, .int .i64 t587, .int .i64 t588, .int .i64 t589, .int .i64 t590] 113 (0, 0)) (by (with_reducible repeat (first | refine blk_drewN ?_ _ | refine blk_drew ?_ | refine blk_alloc ?_ _)); refine blk_put (cs := #[.int .i64 t585, .string t586, .int .i64 t587, .int .i64 t588, .int .i64 t589, .int .i64 0]) ?_ 5 _ rfl; (with_reducible repeat (first | refine blk_drewN ?_ _ | refine blk_drew ?_ | refine blk_alloc ?_ _)); refine blk_put (cs := #[.int .i64 t585, .string t586, .int .i64 t587, .int .i64 t588, .int .i64 0, .int .i64 0]) ?_ 4 _ rfl; (with_reducible repeat (first | refine blk_drewN ?_ _ | refine blk_drew ?_ | refine blk_alloc ?_ _)); refine blk_put (cs := #[.int .i64 t585, .string t586, .int .i64 t587, .int .i64 0, .int .i64 0, .int .i64 0]) ?_ 3 _ rfl; (with_reducible repeat (first | refine blk_drewN ?_ _ | refine blk_drew ?_ | refine blk_alloc ?_ _)); refine blk_put (cs := #[.int .i64 t585, .string t586, .int .i64 0, .int .i64 0, .int .i64 0, .int .i64 0]) ?_ 2 _ rfl; (with_reducible repeat (first | refine blk_drewN ?_ _ | refine blk_drew ?_ | refine blk_alloc ?_ _)); refine blk_put (cs := #[.int .i64 t585, .string (⟨#[]⟩ : ByteArray), .int .i64 0, .int .i64 0, .int .i64 0, .int .i64 0]) ?_ 1 _ rfl; (with_reducible repeat (first | refine blk_drewN ?_ _ | refine blk_drew ?_ | refine blk_alloc ?_ _)); refine blk_put (cs := #[.int .i64 0, .string (⟨#[]⟩ : ByteArray), .int .i64 0, .int .i64 0, .int .i64 0, .int .i64 0]) ?_ 0 _ rfl; (with_reducible repeat (first | refine blk_drewN ?_ _ | refine blk_drew ?_ | refine blk_alloc ?_ _)); exact BK591.out) hg (Kd.R_ne HO_5.out BK591.out (by decide))); have n1_ := Aside0.mk (hb); have n2_ := Aside0.mk (ho); clear BK591; clear HB; clear HO_5; have BK591 := n0_; have HB := n1_; have HO594 := n2_; clear n0_ n1_ n2_; clear ho hb hg hat; have hcz13_0 : w12.cell? ⟨gb591, 0, none⟩ = some (.int .i64 t585) := (blk_cell BK591.out 0).trans rfl; have hcz13_1 : w12.cell? ⟨gb591, 1, none⟩ = some (.string t586) := (blk_cell BK591.out 1).trans rfl; have hcz13_2 : w12.cell? ⟨gb591, 2, none⟩ = some (.int .i64 t587) := (blk_cell BK591.out 2).trans rfl; have hcz13_3 : w12.cell? ⟨gb591, 3, none⟩ = some (.int .i64 t588) := (blk_cell BK591.out 3).trans rfl; have hcz13_4 : w12.cell? ⟨gb591, 4, none⟩ = some (.int .i64 t589) := (blk_cell BK591.out 4).trans rfl; have hcz13_5 : w12.cell? ⟨gb591, 5, none⟩ = some (.int .i64 t590) := (blk_cell BK591.out 5).trans rfl; have hfz13_0 := blk_frozen BK591.out 0; have hfz13_1 := blk_frozen BK591.out 1; have hfz13_2 := blk_frozen BK591.out 2; have hfz13_3 := blk_frozen BK591.out 3; have hfz13_4 := blk_frozen BK591.out 4; have hfz13_5 := blk_frozen BK591.out 5) | (go_at_call 67; (with_reducible refine (refrainref5_skip.calls k1 a0 t588 t595 _ A8.out).mono ?_); rintro e w' ⟨rfl, ⟨nd, rfl⟩⟩; (try first | exact ⟨rfl, _, World.drewN_drewN _ _ _⟩ | exact ⟨rfl, _, Eq.trans (World.drewN_drewN _ _ _) (congrArg (World.drewN _) (Nat.add_assoc _ _ _))⟩))); try go_wp2_with (first | (go_at_call 68; (with_reducible refine (refrainref5_one.calls k1 a0 x6_1 t585 t586 t587 t588 t589 t590 _ A5.out).mono ?_); rintro e w9 ⟨rfl, hb⟩; replace HO_5 := Aside0.mk (Kd.R_below (by (with_reducible repeat (first | apply Kd.R_alloc | apply Kd.R_drewN | apply Kd.R_drew)); exact HO_5.out) hb); replace HB := bsA HB hb; (try clear hb); (try clear hb2); (try clear hk); (try clear hi)) | ((with_reducible refine gate_dst (N := 7) rfl ?_); refine box_event ?hg (N := 7) ?hd (cs := #[.int .i64 0, .string (⟨#[]⟩ : ByteArray), .int .i64 0, .int .i64 0, .int .i64 0, .int .i64 0]) (t := 113) ?hr ?_; (case hd => rfl); (case hg => rfl); (case hr => first | (go_simp; done) | (go_simp; rfl)); intro gb591 hg w10 hbox hb; have BK591 := Aside0.mk hbox; have GW591 := geA hg HB; have GE591 := geA hg HB; replace HO_5 := Aside0.mk (Kd.R_below (by (with_reducible repeat (first | apply Kd.R_alloc | apply Kd.R_drewN | apply Kd.R_drew)); exact HO_5.out) hb); replace HB := bsA HB hb; clear hb hbox hg; have hcz11_0 : w10.cell? ⟨gb591, 0, none⟩ = some (.int .i64 0) := (blk_cell BK591.out 0).trans rfl; have hcz11_1 : w10.cell? ⟨gb591, 1, none⟩ = some (.string (⟨#[]⟩ : ByteArray)) := (blk_cell BK591.out 1).trans rfl; have hcz11_2 : w10.cell? ⟨gb591, 2, none⟩ = some (.int .i64 0) := (blk_cell BK591.out 2).trans rfl; have hcz11_3 : w10.cell? ⟨gb591, 3, none⟩ = some (.int .i64 0) := (blk_cell BK591.out 3).trans rfl; have hcz11_4 : w10.cell? ⟨gb591, 4, none⟩ = some (.int .i64 0) := (blk_cell BK591.out 4).trans rfl; have hcz11_5 : w10.cell? ⟨gb591, 5, none⟩ = some (.int .i64 0) := (blk_cell BK591.out 5).trans rfl; have hfz11_0 := blk_frozen BK591.out 0; have hfz11_1 := blk_frozen BK591.out 1; have hfz11_2 := blk_frozen BK591.out 2; have hfz11_3 := blk_frozen BK591.out 3; have hfz11_4 := blk_frozen BK591.out 4; have hfz11_5 := blk_frozen BK591.out 5) | ((with_reducible refine gate_builtin (b := .append) (xs := #[.tmp 27, .tmp 30]) rfl ?_); at_builtin; refine Kd.R_append k44 (w0 := w) w.heap.size rfl (.tmp 27) (.tmp 30) 40 44 (.agg #[(.int .i64 0), (.string ⟨#[]⟩), (.int .i64 0)]) 32 rfl Tryd.underlying40 info44 rfl (by decide) (by omega) u5 x5_1 (⟨t585, t586, t587⟩ : S44) [.int .i64 t585, .string t586, .int .i64 t587] (fun _ => True) (fun _ => False) rfl (by first | (go_simp; done) | (go_simp; rfl)) ?aP (fun _ hk => hk.elim) ?aF ?aO ?aB ?aS ?aL ?_; (case aP => exact k44_mkM _ _ _ (⟨t585, t586, t587⟩ : S44)); (case aB => exact (hbT HB.out)); (case aF => exact (fun _ _ => trivial)); (case aO => exact (by (with_reducible repeat (first | apply Kd.R_alloc | apply Kd.R_drewN | apply Kd.R_drew)); exact Kd.R_mono (Kd.R_far (p := ⟨gb591, 5, none⟩) (Kd.R_far (p := ⟨gb591, 4, none⟩) (Kd.R_far (p := ⟨gb591, 3, none⟩) (Kd.R_far (p := ⟨gb591, 2, none⟩) (Kd.R_far (p := ⟨gb591, 1, none⟩) (Kd.R_far (p := ⟨gb591, 0, none⟩) (Kd.R_types HO_5.out BK591.out (by decide)) (fun _ hk => hk.2) (.int .i64 t585)) (fun _ hk => hk.2) (.string t586)) (fun _ hk => hk.2) (.int .i64 t587)) (fun _ hk => hk.2) (.int .i64 t588)) (fun _ hk => hk.2) (.int .i64 t589)) (fun _ hk => hk.2) (.int .i64 t590)) (fun _ hk => trivial))); (case aS => exact (below_size (hbT HB.out))); (case aL => have := LMc7.out; omega); intro v593 w12 ho hb hg hat; rw [← Ny592.out] at ho; have n0_ := Aside0.mk (blk_grown (g := gb591) (o := .cells #[.int .i64 t585, .string t586, .int .i64 t587, .int .i64 t588, .int .i64 t589, .int .i64 t590] 113 (0, 0)) (by (with_reducible repeat (first | refine blk_drewN ?_ _ | refine blk_drew ?_ | refine blk_alloc ?_ _)); refine blk_put (cs := #[.int .i64 t585, .string t586, .int .i64 t587, .int .i64 t588, .int .i64 t589, .int .i64 0]) ?_ 5 _ rfl; (with_reducible repeat (first | refine blk_drewN ?_ _ | refine blk_drew ?_ | refine blk_alloc ?_ _)); refine blk_put (cs := #[.int .i64 t585, .string t586, .int .i64 t587, .int .i64 t588, .int .i64 0, .int .i64 0]) ?_ 4 _ rfl; (with_reducible repeat (first | refine blk_drewN ?_ _ | refine blk_drew ?_ | refine blk_alloc ?_ _)); refine blk_put (cs := #[.int .i64 t585, .string t586, .int .i64 t587, .int .i64 0, .int .i64 0, .int .i64 0]) ?_ 3 _ rfl; (with_reducible repeat (first | refine blk_drewN ?_ _ | refine blk_drew ?_ | refine blk_alloc ?_ _)); refine blk_put (cs := #[.int .i64 t585, .string t586, .int .i64 0, .int .i64 0, .int .i64 0, .int .i64 0]) ?_ 2 _ rfl; (with_reducible repeat (first | refine blk_drewN ?_ _ | refine blk_drew ?_ | refine blk_alloc ?_ _)); refine blk_put (cs := #[.int .i64 t585, .string (⟨#[]⟩ : ByteArray), .int .i64 0, .int .i64 0, .int .i64 0, .int .i64 0]) ?_ 1 _ rfl; (with_reducible repeat (first | refine blk_drewN ?_ _ | refine blk_drew ?_ | refine blk_alloc ?_ _)); refine blk_put (cs := #[.int .i64 0, .string (⟨#[]⟩ : ByteArray), .int .i64 0, .int .i64 0, .int .i64 0, .int .i64 0]) ?_ 0 _ rfl; (with_reducible repeat (first | refine blk_drewN ?_ _ | refine blk_drew ?_ | refine blk_alloc ?_ _)); exact BK591.out) hg (Kd.R_ne HO_5.out BK591.out (by decide))); have n1_ := Aside0.mk (hb); have n2_ := Aside0.mk (ho); clear BK591; clear HB; clear HO_5; have BK591 := n0_; have HB := n1_; have HO594 := n2_; clear n0_ n1_ n2_; clear ho hb hg hat; have hcz13_0 : w12.cell? ⟨gb591, 0, none⟩ = some (.int .i64 t585) := (blk_cell BK591.out 0).trans rfl; have hcz13_1 : w12.cell? ⟨gb591, 1, none⟩ = some (.string t586) := (blk_cell BK591.out 1).trans rfl; have hcz13_2 : w12.cell? ⟨gb591, 2, none⟩ = some (.int .i64 t587) := (blk_cell BK591.out 2).trans rfl; have hcz13_3 : w12.cell? ⟨gb591, 3, none⟩ = some (.int .i64 t588) := (blk_cell BK591.out 3).trans rfl; have hcz13_4 : w12.cell? ⟨gb591, 4, none⟩ = some (.int .i64 t589) := (blk_cell BK591.out 4).trans rfl; have hcz13_5 : w12.cell? ⟨gb591, 5, none⟩ = some (.int .i64 t590) := (blk_cell BK591.out 5).trans rfl; have hfz13_0 := blk_frozen BK591.out 0; have hfz13_1 := blk_frozen BK591.out 1; have hfz13_2 := blk_frozen BK591.out 2; have hfz13_3 := blk_frozen BK591.out 3; have hfz13_4 := blk_frozen BK591.out 4; have hfz13_5 := blk_frozen BK591.out 5) | (go_at_call 67; (with_reducible refine (refrainref5_skip.calls k1 a0 t588 t595 _ A8.out).mono ?_); rintro e w' ⟨rfl, ⟨nd, rfl⟩⟩; (try first | exact ⟨rfl, _, World.drewN_drewN _ _ _⟩ | exact ⟨rfl, _, Eq.trans (World.drewN_drewN _ _ _) (congrArg (World.drewN _) (Nat.add_assoc _ _ _))⟩))))
              go_roundg k1
              case measure => have := HK1.out; omega
              case rel => exact ⟨(y592), (t595), (by first | rfl | (simp; done) | (simp [*]; done) | (simp; unfold wrap64; omega) | (congr 1; (try rw [Bool.eq_iff_iff]); simp [List.isEmpty_iff]; done)), H', ⟨by have := HK1.out; omega⟩, ⟨by (with_reducible repeat (first | apply Kd.R_alloc | apply Kd.R_drewN | apply Kd.R_drew)); exact HO594.out⟩, ⟨hbT HB.out⟩⟩
            · rw [if_neg c7] at H
              exact absurd H (by simp)
          · rw [if_neg c6] at H
            have c6b0 : (t590 == 0) = false := beq_eq_false_iff_ne.mpr c6
            have c6b1 : (t590 != 0) = true := bne_iff_ne.mpr c6
            simp only [Option.some.injEq, Prod.mk.injEq] at H
            obtain ⟨rfl, rfl, rfl⟩ := H
            go_wp2_with (first | (go_at_call 68; (with_reducible refine (refrainref5_one.calls k1 a0 x6_1 t585 t586 t587 t588 t589 t590 _ A5.out).mono ?_); rintro e w14 ⟨rfl, hb⟩; replace HO_5 := Aside0.mk (Kd.R_below (by (with_reducible repeat (first | apply Kd.R_alloc | apply Kd.R_drewN | apply Kd.R_drew)); exact HO_5.out) hb); replace HB := bsA HB hb; (try clear hb); (try clear hb2); (try clear hk); (try clear hi)) | ((with_reducible refine gate_dst (N := 7) rfl ?_); refine box_event ?hg (N := 7) ?hd (cs := #[.int .i64 0, .string (⟨#[]⟩ : ByteArray), .int .i64 0, .int .i64 0, .int .i64 0, .int .i64 0]) (t := 113) ?hr ?_; (case hd => rfl); (case hg => rfl); (case hr => first | (go_simp; done) | (go_simp; rfl)); intro gb591 hg w15 hbox hb; have BK591 := Aside0.mk hbox; have GW591 := geA hg HB; have GE591 := geA hg HB; replace HO_5 := Aside0.mk (Kd.R_below (by (with_reducible repeat (first | apply Kd.R_alloc | apply Kd.R_drewN | apply Kd.R_drew)); exact HO_5.out) hb); replace HB := bsA HB hb; clear hb hbox hg; have hcz16_0 : w15.cell? ⟨gb591, 0, none⟩ = some (.int .i64 0) := (blk_cell BK591.out 0).trans rfl; have hcz16_1 : w15.cell? ⟨gb591, 1, none⟩ = some (.string (⟨#[]⟩ : ByteArray)) := (blk_cell BK591.out 1).trans rfl; have hcz16_2 : w15.cell? ⟨gb591, 2, none⟩ = some (.int .i64 0) := (blk_cell BK591.out 2).trans rfl; have hcz16_3 : w15.cell? ⟨gb591, 3, none⟩ = some (.int .i64 0) := (blk_cell BK591.out 3).trans rfl; have hcz16_4 : w15.cell? ⟨gb591, 4, none⟩ = some (.int .i64 0) := (blk_cell BK591.out 4).trans rfl; have hcz16_5 : w15.cell? ⟨gb591, 5, none⟩ = some (.int .i64 0) := (blk_cell BK591.out 5).trans rfl; have hfz16_0 := blk_frozen BK591.out 0; have hfz16_1 := blk_frozen BK591.out 1; have hfz16_2 := blk_frozen BK591.out 2; have hfz16_3 := blk_frozen BK591.out 3; have hfz16_4 := blk_frozen BK591.out 4; have hfz16_5 := blk_frozen BK591.out 5))
            repeat (go_quiet (first | (go_at_call 68; (with_reducible refine (refrainref5_one.calls k1 a0 x6_1 t585 t586 t587 t588 t589 t590 _ A5.out).mono ?_); rintro e w14 ⟨rfl, hb⟩; replace HO_5 := Aside0.mk (Kd.R_below (by (with_reducible repeat (first | apply Kd.R_alloc | apply Kd.R_drewN | apply Kd.R_drew)); exact HO_5.out) hb); replace HB := bsA HB hb; (try clear hb); (try clear hb2); (try clear hk); (try clear hi)) | ((with_reducible refine gate_dst (N := 7) rfl ?_); refine box_event ?hg (N := 7) ?hd (cs := #[.int .i64 0, .string (⟨#[]⟩ : ByteArray), .int .i64 0, .int .i64 0, .int .i64 0, .int .i64 0]) (t := 113) ?hr ?_; (case hd => rfl); (case hg => rfl); (case hr => first | (go_simp; done) | (go_simp; rfl)); intro gb591 hg w15 hbox hb; have BK591 := Aside0.mk hbox; have GW591 := geA hg HB; have GE591 := geA hg HB; replace HO_5 := Aside0.mk (Kd.R_below (by (with_reducible repeat (first | apply Kd.R_alloc | apply Kd.R_drewN | apply Kd.R_drew)); exact HO_5.out) hb); replace HB := bsA HB hb; clear hb hbox hg; have hcz16_0 : w15.cell? ⟨gb591, 0, none⟩ = some (.int .i64 0) := (blk_cell BK591.out 0).trans rfl; have hcz16_1 : w15.cell? ⟨gb591, 1, none⟩ = some (.string (⟨#[]⟩ : ByteArray)) := (blk_cell BK591.out 1).trans rfl; have hcz16_2 : w15.cell? ⟨gb591, 2, none⟩ = some (.int .i64 0) := (blk_cell BK591.out 2).trans rfl; have hcz16_3 : w15.cell? ⟨gb591, 3, none⟩ = some (.int .i64 0) := (blk_cell BK591.out 3).trans rfl; have hcz16_4 : w15.cell? ⟨gb591, 4, none⟩ = some (.int .i64 0) := (blk_cell BK591.out 4).trans rfl; have hcz16_5 : w15.cell? ⟨gb591, 5, none⟩ = some (.int .i64 0) := (blk_cell BK591.out 5).trans rfl; have hfz16_0 := blk_frozen BK591.out 0; have hfz16_1 := blk_frozen BK591.out 1; have hfz16_2 := blk_frozen BK591.out 2; have hfz16_3 := blk_frozen BK591.out 3; have hfz16_4 := blk_frozen BK591.out 4; have hfz16_5 := blk_frozen BK591.out 5)); try go_wp2_with (first | (go_at_call 68; (with_reducible refine (refrainref5_one.calls k1 a0 x6_1 t585 t586 t587 t588 t589 t590 _ A5.out).mono ?_); rintro e w14 ⟨rfl, hb⟩; replace HO_5 := Aside0.mk (Kd.R_below (by (with_reducible repeat (first | apply Kd.R_alloc | apply Kd.R_drewN | apply Kd.R_drew)); exact HO_5.out) hb); replace HB := bsA HB hb; (try clear hb); (try clear hb2); (try clear hk); (try clear hi)) | ((with_reducible refine gate_dst (N := 7) rfl ?_); refine box_event ?hg (N := 7) ?hd (cs := #[.int .i64 0, .string (⟨#[]⟩ : ByteArray), .int .i64 0, .int .i64 0, .int .i64 0, .int .i64 0]) (t := 113) ?hr ?_; (case hd => rfl); (case hg => rfl); (case hr => first | (go_simp; done) | (go_simp; rfl)); intro gb591 hg w15 hbox hb; have BK591 := Aside0.mk hbox; have GW591 := geA hg HB; have GE591 := geA hg HB; replace HO_5 := Aside0.mk (Kd.R_below (by (with_reducible repeat (first | apply Kd.R_alloc | apply Kd.R_drewN | apply Kd.R_drew)); exact HO_5.out) hb); replace HB := bsA HB hb; clear hb hbox hg; have hcz16_0 : w15.cell? ⟨gb591, 0, none⟩ = some (.int .i64 0) := (blk_cell BK591.out 0).trans rfl; have hcz16_1 : w15.cell? ⟨gb591, 1, none⟩ = some (.string (⟨#[]⟩ : ByteArray)) := (blk_cell BK591.out 1).trans rfl; have hcz16_2 : w15.cell? ⟨gb591, 2, none⟩ = some (.int .i64 0) := (blk_cell BK591.out 2).trans rfl; have hcz16_3 : w15.cell? ⟨gb591, 3, none⟩ = some (.int .i64 0) := (blk_cell BK591.out 3).trans rfl; have hcz16_4 : w15.cell? ⟨gb591, 4, none⟩ = some (.int .i64 0) := (blk_cell BK591.out 4).trans rfl; have hcz16_5 : w15.cell? ⟨gb591, 5, none⟩ = some (.int .i64 0) := (blk_cell BK591.out 5).trans rfl; have hfz16_0 := blk_frozen BK591.out 0; have hfz16_1 := blk_frozen BK591.out 1; have hfz16_2 := blk_frozen BK591.out 2; have hfz16_3 := blk_frozen BK591.out 3; have hfz16_4 := blk_frozen BK591.out 4; have hfz16_5 := blk_frozen BK591.out 5)))
            go_ret3
            exact ⟨_, by first | rfl | (simp [errW_none, errW_some] <;> rfl) | (simp [*, errW_none, errW_some] <;> rfl), by first | exact Kd.R_nil _ _ _ _ _ | exact Kd.N_nil _ _ _ _ _ | exact Kd.V_nil _ _ _ _ _ | exact Kd.Q_nil _ _ _ _ _ | exact Kd.S_nil _ _ _ _ _, hbT HB.out⟩
        · rw [if_neg c4] at H
          have c4b0 : decide (x6_1 < (a0.size : Int)) = false := decide_eq_false c4
          clear c4
          by_cases c17 : x5_1.length < 4398046511104
          · rw [if_pos c17] at H
            have LMc17 := Aside0.mk c17
            clear c17
            obtain ⟨y582, hy582⟩ : ∃ y_ : List (S44), y_ = (x5_1 ++ [(⟨5, (⟨#[]⟩ : ByteArray), (a0.size : Int)⟩ : S44)]) := ⟨_, rfl⟩
            replace H : (some (y582, 0, 0)) = some (r1, r2, r3) := by first | (rw [hy582]; with_reducible exact H) | (have H2_ := (Option.bind_some _ _).symm.trans H; rw [hy582]; with_reducible exact H2_) | (have H2_ := (Option.bind_some _ _).symm.trans H; with_reducible exact H2_) | with_reducible exact H | (rw [hy582]; exact H) | exact H
            have Ny582 := Aside0.mk hy582
            clear hy582
            simp only [Option.some.injEq, Prod.mk.injEq] at H
            obtain ⟨rfl, rfl, rfl⟩ := H
            go_wp2_with (first | ((with_reducible refine gate_builtin (b := .append) (xs := #[.tmp 36, .tmp 40]) rfl ?_); at_builtin; refine Kd.R_append k44 (w0 := w) w.heap.size rfl (.tmp 36) (.tmp 40) 40 44 (.agg #[(.int .i64 0), (.string ⟨#[]⟩), (.int .i64 0)]) 32 rfl Tryd.underlying40 info44 rfl (by decide) (by omega) u5 x5_1 (⟨5, (⟨#[]⟩ : ByteArray), (a0.size : Int)⟩ : S44) [.int .i64 5, .string (⟨#[]⟩ : ByteArray), .int .i64 (a0.size : Int)] (fun _ => True) (fun _ => False) rfl rfl ?aP (fun _ hk => hk.elim) ?aF ?aO ?aB ?aS ?aL ?_; (case aP => exact k44_mkM _ _ _ (⟨5, (⟨#[]⟩ : ByteArray), (a0.size : Int)⟩ : S44)); (case aB => exact (hbT HB.out)); (case aF => exact (fun _ _ => trivial)); (case aO => exact (by (with_reducible repeat (first | apply Kd.R_alloc | apply Kd.R_drewN | apply Kd.R_drew)); exact HO_5.out)); (case aS => exact (below_size (hbT HB.out))); (case aL => have := LMc17.out; omega); intro v583 w18 ho hb hg hat; rw [← Ny582.out] at ho; have n0_ := Aside0.mk (hb); have n1_ := Aside0.mk (ho); clear HB; clear HO_5; have HB := n0_; have HO584 := n1_; clear n0_ n1_; clear ho hb hg hat))
            repeat (go_quiet (first | ((with_reducible refine gate_builtin (b := .append) (xs := #[.tmp 36, .tmp 40]) rfl ?_); at_builtin; refine Kd.R_append k44 (w0 := w) w.heap.size rfl (.tmp 36) (.tmp 40) 40 44 (.agg #[(.int .i64 0), (.string ⟨#[]⟩), (.int .i64 0)]) 32 rfl Tryd.underlying40 info44 rfl (by decide) (by omega) u5 x5_1 (⟨5, (⟨#[]⟩ : ByteArray), (a0.size : Int)⟩ : S44) [.int .i64 5, .string (⟨#[]⟩ : ByteArray), .int .i64 (a0.size : Int)] (fun _ => True) (fun _ => False) rfl rfl ?aP (fun _ hk => hk.elim) ?aF ?aO ?aB ?aS ?aL ?_; (case aP => exact k44_mkM _ _ _ (⟨5, (⟨#[]⟩ : ByteArray), (a0.size : Int)⟩ : S44)); (case aB => exact (hbT HB.out)); (case aF => exact (fun _ _ => trivial)); (case aO => exact (by (with_reducible repeat (first | apply Kd.R_alloc | apply Kd.R_drewN | apply Kd.R_drew)); exact HO_5.out)); (case aS => exact (below_size (hbT HB.out))); (case aL => have := LMc17.out; omega); intro v583 w18 ho hb hg hat; rw [← Ny582.out] at ho; have n0_ := Aside0.mk (hb); have n1_ := Aside0.mk (ho); clear HB; clear HO_5; have HB := n0_; have HO584 := n1_; clear n0_ n1_; clear ho hb hg hat)); try go_wp2_with (first | ((with_reducible refine gate_builtin (b := .append) (xs := #[.tmp 36, .tmp 40]) rfl ?_); at_builtin; refine Kd.R_append k44 (w0 := w) w.heap.size rfl (.tmp 36) (.tmp 40) 40 44 (.agg #[(.int .i64 0), (.string ⟨#[]⟩), (.int .i64 0)]) 32 rfl Tryd.underlying40 info44 rfl (by decide) (by omega) u5 x5_1 (⟨5, (⟨#[]⟩ : ByteArray), (a0.size : Int)⟩ : S44) [.int .i64 5, .string (⟨#[]⟩ : ByteArray), .int .i64 (a0.size : Int)] (fun _ => True) (fun _ => False) rfl rfl ?aP (fun _ hk => hk.elim) ?aF ?aO ?aB ?aS ?aL ?_; (case aP => exact k44_mkM _ _ _ (⟨5, (⟨#[]⟩ : ByteArray), (a0.size : Int)⟩ : S44)); (case aB => exact (hbT HB.out)); (case aF => exact (fun _ _ => trivial)); (case aO => exact (by (with_reducible repeat (first | apply Kd.R_alloc | apply Kd.R_drewN | apply Kd.R_drew)); exact HO_5.out)); (case aS => exact (below_size (hbT HB.out))); (case aL => have := LMc17.out; omega); intro v583 w18 ho hb hg hat; rw [← Ny582.out] at ho; have n0_ := Aside0.mk (hb); have n1_ := Aside0.mk (ho); clear HB; clear HO_5; have HB := n0_; have HO584 := n1_; clear n0_ n1_; clear ho hb hg hat)))
            go_ret3
            exact ⟨_, by first | rfl | (simp [errW_none, errW_some] <;> rfl) | (simp [*, errW_none, errW_some] <;> rfl), by (with_reducible repeat (first | apply Kd.R_alloc | apply Kd.R_drewN | apply Kd.R_drew)); exact HO584.out, hbT HB.out⟩
          · rw [if_neg c17] at H
            exact absurd H (by simp)

/-! ### refrainref5_among: function 71 -/
def refrainref5_among.l0 : Nat → List ByteArray → ByteArray → Int → Option (Bool)
  | 0, _, _, _ => none
  | k + 1, x0, x1, x5 => if x5 < (x0.length : Int) then (if 0 ≤ x5 then (if (rdOf ByteArray.empty x0 x5).toList = x1.toList then (some true) else (refrainref5_among.l0 k x0 x1 (wrap64 (x5 + 1)))) else (none)) else (some false)
def refrainref5_among.f (k : Nat) (l0 : List ByteArray) (a1 : ByteArray) : Option (Bool) := refrainref5_among.l0 k l0 a1 0
set_option maxRecDepth 100000 in
theorem refrainref5_among.l0_zero : ∀ y0 y1 y2, refrainref5_among.l0 0 y0 y1 y2 = none := fun _ _ _ => rfl
set_option maxRecDepth 100000 in
theorem refrainref5_among.mono_l : ∀ k, (∀ y0 y1 y2, LeO (refrainref5_among.l0 k y0 y1 y2) (refrainref5_among.l0 (k + 1) y0 y1 y2))
  | 0 => fun _ _ _ r h => by (unfold refrainref5_among.l0 at h; cases h)
  | k + 1 => by
    have ih0 := refrainref5_among.mono_l k
    · intro y0 y1 y2
      unfold refrainref5_among.l0
      repeat' first
      | (with_reducible exact ih0 _ _ _)
      | (with_reducible exact LeO.refl _)
      | (with_reducible exact LeO.none _)
      | (with_reducible refine LeO.ite ?_ ?_)
      | (with_reducible refine LeO.bind ?_ (fun _ => ?_))
      | exact ih0 _ _ _
      | exact LeO.none _
      | refine LeO.ite ?_ ?_
      | refine LeO.bind ?_ (fun _ => ?_)
set_option maxRecDepth 100000 in
theorem refrainref5_among.mono : ∀ a0 a1 k, LeO (refrainref5_among.f k a0 a1) (refrainref5_among.f (k + 1) a0 a1) := by
  intro a0 a1 k
  have ih0 := refrainref5_among.mono_l k
  unfold refrainref5_among.f
  repeat' first
      | (with_reducible exact ih0 _ _ _)
      | (with_reducible exact LeO.refl _)
      | (with_reducible exact LeO.none _)
      | (with_reducible refine LeO.ite ?_ ?_)
      | (with_reducible refine LeO.bind ?_ (fun _ => ?_))
      | exact ih0 _ _ _
      | exact LeO.none _
      | refine LeO.ite ?_ ?_
      | refine LeO.bind ?_ (fun _ => ?_)
set_option maxHeartbeats 8000000 in
set_option maxRecDepth 100000 in
theorem refrainref5_among.calls (k : Nat) (A0 : Option Addr) (c0 : Nat) (l0 : List ByteArray) (a1 : ByteArray) (r : Bool) (w : World) (hr0 : Kd.C Kd.string w A0 l0.length l0) (hc0 : l0.length ≤ c0) (h : refrainref5_among.f k l0 a1 = some r) :
    Calls Tryd.prog 71 #[.slice A0 l0.length c0, .string a1] w fun e w' => e = .returned (.bool r) ∧ Drawn0 w w' := by
  have HR0 := Aside0.mk hr0
  have HC0 := Aside0.mk hc0
  clear hr0 hc0
  have H : (refrainref5_among.l0 k l0 a1 0) = some r := h
  clear h
  have H' := Aside0.mk H
  clear H
  go_enter Tryd.func71, Tryd.ntmps71
  go_wp2
  go_loopg [5] k (fun kq v5 w' => ∃ (x5_1 : Int), v5 = .int .i64 x5_1 ∧ Aside0 (refrainref5_among.l0 kq l0 a1 x5_1 = some r) ∧ Aside0 (kq ≤ k) ∧ Drawn0 w w')
  case atStart => exact ⟨(0), (by first | rfl | (simp; done) | (simp [*]; done) | (simp; unfold wrap64; omega) | (congr 1; (try rw [Bool.eq_iff_iff]); simp [List.isEmpty_iff]; done)), H', ⟨Nat.le_refl _⟩, by repeat (first | exact Drawn0.refl _ | apply Drawn0.step)⟩
  case round =>
    clear H'
    try clear p2
    obtain ⟨x5_1, rfl, HA, HK1, ⟨m1, rfl⟩⟩ := hrel
    cases gk with
    | zero => (have HA2 := HA.out; clear HA; revert HA2; rw [refrainref5_among.l0_zero]; intro h_; cases h_)
    | succ k1 =>
      have H := HA.out
      clear HA
      simp only [refrainref5_among.l0] at H
      by_cases c3 : x5_1 < (l0.length : Int)
      · rw [if_pos c3] at H
        have c3b0 : decide (x5_1 < (l0.length : Int)) = true := decide_eq_true c3
        clear c3
        by_cases c4 : 0 ≤ x5_1
        · rw [if_pos c4] at H
          have c4b0 : decide (0 ≤ x5_1) = true := decide_eq_true c4
          clear c4
          by_cases c5 : (rdOf ByteArray.empty l0 x5_1).toList = a1.toList
          · rw [if_pos c5] at H
            have c5b0 : ((rdOf ByteArray.empty l0 x5_1).toList == a1.toList) = true := beq_iff_eq.mpr c5
            have c5b1 : ((rdOf ByteArray.empty l0 x5_1).toList != a1.toList) = false := bne_eq_false_iff_eq.mpr c5
            clear c5
            obtain rfl := Option.some.inj H
            have p596 : 0 ≤ (x5_1 : Int) := of_decide_eq_true (by first | (with_reducible assumption) | assumption)
            have q596 : x5_1 < (l0.length : Int) := of_decide_eq_true (by first | (with_reducible assumption) | assumption)
            obtain ⟨ad596, e596, hx596_0⟩ := Kd.at_string HR0.out x5_1 p596 q596
            cases e596
            replace p596 := eq_true p596
            replace q596 := eq_true q596
            go_wp2
            go_ret
            exact ⟨by first | rfl | (simp; done) | (simp [*]; done) | (simp; unfold wrap64; omega) | (congr 1; (try rw [Bool.eq_iff_iff]); simp [List.isEmpty_iff]; done), by repeat (first | exact Drawn0.refl _ | apply Drawn0.step)⟩
          · rw [if_neg c5] at H
            have c5b0 : ((rdOf ByteArray.empty l0 x5_1).toList == a1.toList) = false := beq_eq_false_iff_ne.mpr c5
            have c5b1 : ((rdOf ByteArray.empty l0 x5_1).toList != a1.toList) = true := bne_iff_ne.mpr c5
            have H' := Aside0.mk H
            clear H
            have p596 : 0 ≤ (x5_1 : Int) := of_decide_eq_true (by first | (with_reducible assumption) | assumption)
            have q596 : x5_1 < (l0.length : Int) := of_decide_eq_true (by first | (with_reducible assumption) | assumption)
            obtain ⟨ad596, e596, hx596_0⟩ := Kd.at_string HR0.out x5_1 p596 q596
            cases e596
            replace p596 := eq_true p596
            replace q596 := eq_true q596
            go_wp2
            go_roundg k1
            case measure => have := HK1.out; omega
            case rel => exact ⟨(wrap64 (x5_1 + 1)), (by first | rfl | (simp; done) | (simp [*]; done) | (simp; unfold wrap64; omega) | (congr 1; (try rw [Bool.eq_iff_iff]); simp [List.isEmpty_iff]; done)), H', ⟨by have := HK1.out; omega⟩, by repeat (first | exact Drawn0.refl _ | apply Drawn0.step)⟩
        · rw [if_neg c4] at H
          exact absurd H (by simp)
      · rw [if_neg c3] at H
        have c3b0 : decide (x5_1 < (l0.length : Int)) = false := decide_eq_false c3
        clear c3
        obtain rfl := Option.some.inj H
        go_wp2
        go_ret
        exact ⟨by first | rfl | (simp; done) | (simp [*]; done) | (simp; unfold wrap64; omega) | (congr 1; (try rw [Bool.eq_iff_iff]); simp [List.isEmpty_iff]; done), by repeat (first | exact Drawn0.refl _ | apply Drawn0.step)⟩

/-! ### refrainref5_can: function 69 -/
def refrainref5_can.f (k : Nat) (a0_0 : Int) (a0_1 : ByteArray) (a0_2 : Int) (a1 : Bool) : Option (Bool) := if a0_0 = 1 then (if (a0_1.size : Int) > 0 then (if (a0_1.size : Int) ≤ 32 then (if 0 < (a0_1.size : Int) then ((refrainref5_letter.f (bt a0_1 0)).bind fun t598 => (if t598 = true then ((refrainref5_run.f k a0_1 0 true).bind fun t599 => (some (t599 == (a0_1.size : Int)))) else (some false))) else (none)) else (some false)) else (some false)) else (if a0_0 = 2 then (if (a0_1.size : Int) > 0 then ((refrainref5_run.f k a0_1 0 false).bind fun t600 => (if t600 = (a0_1.size : Int) then ((refrainref5_small.f k a0_1).bind fun t601 => (some t601)) else (some false))) else (some false)) else (if a0_0 = 3 then (some (decide ((a0_1.size : Int) ≤ 256))) else (if a0_0 = 4 then ((refrainref5_signs.f).bind fun t602 => ((refrainref5_among.f k t602 a0_1).bind fun t605 => (some t605))) else (if a0_0 = 5 then (if (a0_1.size : Int) = 0 then (some a1) else (some false)) else (some false)))))
set_option maxRecDepth 100000 in
theorem refrainref5_can.mono : ∀ a0 a1 a2 a3 k, LeO (refrainref5_can.f k a0 a1 a2 a3) (refrainref5_can.f (k + 1) a0 a1 a2 a3) := by
  intro a0 a1 a2 a3 k
  unfold refrainref5_can.f
  repeat' first
      | (with_reducible exact refrainref5_among.mono _ _ _)
      | (with_reducible exact refrainref5_run.mono _ _ _ _)
      | (with_reducible exact refrainref5_small.mono _ _)
      | (with_reducible exact LeO.refl _)
      | (with_reducible exact LeO.none _)
      | (with_reducible refine LeO.ite ?_ ?_)
      | (with_reducible refine LeO.bind ?_ (fun _ => ?_))
      | exact refrainref5_among.mono _ _ _
      | exact refrainref5_run.mono _ _ _ _
      | exact refrainref5_small.mono _ _
      | exact LeO.none _
      | refine LeO.ite ?_ ?_
      | refine LeO.bind ?_ (fun _ => ?_)
set_option maxHeartbeats 8000000 in
set_option maxRecDepth 100000 in
theorem refrainref5_can.calls (k : Nat) (a0_0 : Int) (a0_1 : ByteArray) (a0_2 : Int) (a1 : Bool) (r : Bool) (w : World) (h : refrainref5_can.f k a0_0 a0_1 a0_2 a1 = some r) :
    Calls Tryd.prog 69 #[.agg #[.int .i64 a0_0, .string a0_1, .int .i64 a0_2], .bool a1] w fun e w' => e = .returned (.bool r) ∧ Below w.heap.size w w' := by
  have hu44 := Tryd.underlying44
  have HB := Aside0.mk (Below.refl w.heap.size w)
  have H : (if a0_0 = 1 then (if (a0_1.size : Int) > 0 then (if (a0_1.size : Int) ≤ 32 then (if 0 < (a0_1.size : Int) then ((refrainref5_letter.f (bt a0_1 0)).bind fun t598 => (if t598 = true then ((refrainref5_run.f k a0_1 0 true).bind fun t599 => (some (t599 == (a0_1.size : Int)))) else (some false))) else (none)) else (some false)) else (some false)) else (if a0_0 = 2 then (if (a0_1.size : Int) > 0 then ((refrainref5_run.f k a0_1 0 false).bind fun t600 => (if t600 = (a0_1.size : Int) then ((refrainref5_small.f k a0_1).bind fun t601 => (some t601)) else (some false))) else (some false)) else (if a0_0 = 3 then (some (decide ((a0_1.size : Int) ≤ 256))) else (if a0_0 = 4 then ((refrainref5_signs.f).bind fun t602 => ((refrainref5_among.f k t602 a0_1).bind fun t605 => (some t605))) else (if a0_0 = 5 then (if (a0_1.size : Int) = 0 then (some a1) else (some false)) else (some false)))))) = some r := h
  clear h
  by_cases c3 : a0_0 = 1
  · rw [if_pos c3] at H
    have c3b0 : (a0_0 == 1) = true := beq_iff_eq.mpr c3
    have c3b1 : (a0_0 != 1) = false := bne_eq_false_iff_eq.mpr c3
    clear c3
    by_cases c4 : (a0_1.size : Int) > 0
    · rw [if_pos c4] at H
      have c4b0 : decide (0 < (a0_1.size : Int)) = true := decide_eq_true c4
      have c4b1 : decide (0 < a0_1.size) = true := decide_eq_true (by omega)
      clear c4
      by_cases c5 : (a0_1.size : Int) ≤ 32
      · rw [if_pos c5] at H
        have c5b0 : decide ((a0_1.size : Int) ≤ 32) = true := decide_eq_true c5
        have c5b1 : decide (a0_1.size ≤ 32) = true := decide_eq_true (by omega)
        clear c5
        by_cases c6 : 0 < (a0_1.size : Int)
        · rw [if_pos c6] at H
          have c6b0 : decide (0 < (a0_1.size : Int)) = true := decide_eq_true c6
          have c6b1 : decide (0 < a0_1.size) = true := decide_eq_true (by omega)
          clear c6
          replace H := Option.bind_eq_some_iff.mp H
          obtain ⟨t598, A80, H⟩ := H
          replace H : (if t598 = true then ((refrainref5_run.f k a0_1 0 true).bind fun t599 => (some (t599 == (a0_1.size : Int)))) else (some false)) = some r := H
          have A8 := Aside0.mk A80
          clear A80
          by_cases c9 : t598 = true
          · subst c9
            have H1 : ((refrainref5_run.f k a0_1 0 true).bind fun t599 => (some (t599 == (a0_1.size : Int)))) = some r := by rw [if_pos rfl] at H; exact H
            clear H
            have H := H1
            clear H1
            replace H := Option.bind_eq_some_iff.mp H
            obtain ⟨t599, A100, H⟩ := H
            replace H : (some (t599 == (a0_1.size : Int))) = some r := H
            have A10 := Aside0.mk A100
            clear A100
            obtain rfl := Option.some.inj H
            go_enter Tryd.func69, Tryd.ntmps69
            go_wp2_with (first | ((with_reducible refine gate_dst (N := 2) rfl ?_); refine box_event ?hg (N := 2) ?hd (cs := #[.int .i64 a0_0, .string a0_1, .int .i64 a0_2]) (t := 44) ?hr ?_; (case hd => rfl); (case hg => rfl); (case hr => first | (go_simp; done) | (go_simp; rfl)); intro gb597 hg w11 hbox hb; have BK597 := Aside0.mk hbox; have GW597 := geA hg HB; have GE597 := geA hg HB; replace HB := bsA HB hb; clear hb hbox hg; have hcz12_0 : w11.cell? ⟨gb597, 0, none⟩ = some (.int .i64 a0_0) := (blk_cell BK597.out 0).trans rfl; have hcz12_1 : w11.cell? ⟨gb597, 1, none⟩ = some (.string a0_1) := (blk_cell BK597.out 1).trans rfl; have hcz12_2 : w11.cell? ⟨gb597, 2, none⟩ = some (.int .i64 a0_2) := (blk_cell BK597.out 2).trans rfl; have hfz12_0 := blk_frozen BK597.out 0; have hfz12_1 := blk_frozen BK597.out 1; have hfz12_2 := blk_frozen BK597.out 2; have p7 : 0 ≤ (0 : Int) := (by omega); have q7 : 0 < a0_1.size := (by have : (0 : Int) < (a0_1.size : Int) := of_decide_eq_true (by first | (with_reducible assumption) | assumption); omega); have hx7 : ∀ h : 0 < a0_1.size, ((a0_1[0]'h).toNat : Int) = bt a0_1 0 := bt_at a0_1 0; clear p7; have qi7 : (0 < (a0_1.size : Int)) = True := eq_true (of_decide_eq_true (by first | (with_reducible assumption) | assumption)); replace q7 := eq_true q7) | (go_at_call 82; (with_reducible refine (refrainref5_letter.calls (bt a0_1 0) true _ A8.out).mono ?_); rintro e w' ⟨rfl, ⟨nd, rfl⟩⟩) | (go_at_call 83; (with_reducible refine (refrainref5_run.calls k a0_1 0 true t599 _ A10.out).mono ?_); rintro e w' ⟨rfl, ⟨nd, rfl⟩⟩))
            go_ret
            exact ⟨by first | rfl | (simp [errW_none, errW_some] <;> rfl) | (simp [*, errW_none, errW_some] <;> rfl), hbT HB.out⟩
          · replace c9 := Bool.eq_false_iff.mpr c9
            subst c9
            have H1 : (some false) = some r := by rw [if_neg (show ¬ (false = true) by decide)] at H; exact H
            clear H
            have H := H1
            clear H1
            obtain rfl := Option.some.inj H
            go_enter Tryd.func69, Tryd.ntmps69
            go_wp2_with (first | ((with_reducible refine gate_dst (N := 2) rfl ?_); refine box_event ?hg (N := 2) ?hd (cs := #[.int .i64 a0_0, .string a0_1, .int .i64 a0_2]) (t := 44) ?hr ?_; (case hd => rfl); (case hg => rfl); (case hr => first | (go_simp; done) | (go_simp; rfl)); intro gb597 hg w13 hbox hb; have BK597 := Aside0.mk hbox; have GW597 := geA hg HB; have GE597 := geA hg HB; replace HB := bsA HB hb; clear hb hbox hg; have hcz14_0 : w13.cell? ⟨gb597, 0, none⟩ = some (.int .i64 a0_0) := (blk_cell BK597.out 0).trans rfl; have hcz14_1 : w13.cell? ⟨gb597, 1, none⟩ = some (.string a0_1) := (blk_cell BK597.out 1).trans rfl; have hcz14_2 : w13.cell? ⟨gb597, 2, none⟩ = some (.int .i64 a0_2) := (blk_cell BK597.out 2).trans rfl; have hfz14_0 := blk_frozen BK597.out 0; have hfz14_1 := blk_frozen BK597.out 1; have hfz14_2 := blk_frozen BK597.out 2; have p7 : 0 ≤ (0 : Int) := (by omega); have q7 : 0 < a0_1.size := (by have : (0 : Int) < (a0_1.size : Int) := of_decide_eq_true (by first | (with_reducible assumption) | assumption); omega); have hx7 : ∀ h : 0 < a0_1.size, ((a0_1[0]'h).toNat : Int) = bt a0_1 0 := bt_at a0_1 0; clear p7; have qi7 : (0 < (a0_1.size : Int)) = True := eq_true (of_decide_eq_true (by first | (with_reducible assumption) | assumption)); replace q7 := eq_true q7) | (go_at_call 82; (with_reducible refine (refrainref5_letter.calls (bt a0_1 0) false _ A8.out).mono ?_); rintro e w' ⟨rfl, ⟨nd, rfl⟩⟩))
            go_ret
            exact ⟨by first | rfl | (simp [errW_none, errW_some] <;> rfl) | (simp [*, errW_none, errW_some] <;> rfl), hbT HB.out⟩
        · rw [if_neg c6] at H
          exact absurd H (by simp)
      · rw [if_neg c5] at H
        have c5b0 : decide ((a0_1.size : Int) ≤ 32) = false := decide_eq_false c5
        have c5b1 : decide (a0_1.size ≤ 32) = false := decide_eq_false (by omega)
        clear c5
        obtain rfl := Option.some.inj H
        go_enter Tryd.func69, Tryd.ntmps69
        go_wp2_with (first | ((with_reducible refine gate_dst (N := 2) rfl ?_); refine box_event ?hg (N := 2) ?hd (cs := #[.int .i64 a0_0, .string a0_1, .int .i64 a0_2]) (t := 44) ?hr ?_; (case hd => rfl); (case hg => rfl); (case hr => first | (go_simp; done) | (go_simp; rfl)); intro gb597 hg w15 hbox hb; have BK597 := Aside0.mk hbox; have GW597 := geA hg HB; have GE597 := geA hg HB; replace HB := bsA HB hb; clear hb hbox hg; have hcz16_0 : w15.cell? ⟨gb597, 0, none⟩ = some (.int .i64 a0_0) := (blk_cell BK597.out 0).trans rfl; have hcz16_1 : w15.cell? ⟨gb597, 1, none⟩ = some (.string a0_1) := (blk_cell BK597.out 1).trans rfl; have hcz16_2 : w15.cell? ⟨gb597, 2, none⟩ = some (.int .i64 a0_2) := (blk_cell BK597.out 2).trans rfl; have hfz16_0 := blk_frozen BK597.out 0; have hfz16_1 := blk_frozen BK597.out 1; have hfz16_2 := blk_frozen BK597.out 2))
        go_ret
        exact ⟨by first | rfl | (simp [errW_none, errW_some] <;> rfl) | (simp [*, errW_none, errW_some] <;> rfl), hbT HB.out⟩
    · rw [if_neg c4] at H
      have c4b0 : decide (0 < (a0_1.size : Int)) = false := decide_eq_false c4
      have c4b1 : decide (0 < a0_1.size) = false := decide_eq_false (by omega)
      clear c4
      obtain rfl := Option.some.inj H
      go_enter Tryd.func69, Tryd.ntmps69
      go_wp2_with (first | ((with_reducible refine gate_dst (N := 2) rfl ?_); refine box_event ?hg (N := 2) ?hd (cs := #[.int .i64 a0_0, .string a0_1, .int .i64 a0_2]) (t := 44) ?hr ?_; (case hd => rfl); (case hg => rfl); (case hr => first | (go_simp; done) | (go_simp; rfl)); intro gb597 hg w17 hbox hb; have BK597 := Aside0.mk hbox; have GW597 := geA hg HB; have GE597 := geA hg HB; replace HB := bsA HB hb; clear hb hbox hg; have hcz18_0 : w17.cell? ⟨gb597, 0, none⟩ = some (.int .i64 a0_0) := (blk_cell BK597.out 0).trans rfl; have hcz18_1 : w17.cell? ⟨gb597, 1, none⟩ = some (.string a0_1) := (blk_cell BK597.out 1).trans rfl; have hcz18_2 : w17.cell? ⟨gb597, 2, none⟩ = some (.int .i64 a0_2) := (blk_cell BK597.out 2).trans rfl; have hfz18_0 := blk_frozen BK597.out 0; have hfz18_1 := blk_frozen BK597.out 1; have hfz18_2 := blk_frozen BK597.out 2))
      go_ret
      exact ⟨by first | rfl | (simp [errW_none, errW_some] <;> rfl) | (simp [*, errW_none, errW_some] <;> rfl), hbT HB.out⟩
  · rw [if_neg c3] at H
    have c3b0 : (a0_0 == 1) = false := beq_eq_false_iff_ne.mpr c3
    have c3b1 : (a0_0 != 1) = true := bne_iff_ne.mpr c3
    by_cases c19 : a0_0 = 2
    · rw [if_pos c19] at H
      have c19b0 : (a0_0 == 2) = true := beq_iff_eq.mpr c19
      have c19b1 : (a0_0 != 2) = false := bne_eq_false_iff_eq.mpr c19
      clear c19
      by_cases c20 : (a0_1.size : Int) > 0
      · rw [if_pos c20] at H
        have c20b0 : decide (0 < (a0_1.size : Int)) = true := decide_eq_true c20
        have c20b1 : decide (0 < a0_1.size) = true := decide_eq_true (by omega)
        clear c20
        replace H := Option.bind_eq_some_iff.mp H
        obtain ⟨t600, A210, H⟩ := H
        replace H : (if t600 = (a0_1.size : Int) then ((refrainref5_small.f k a0_1).bind fun t601 => (some t601)) else (some false)) = some r := H
        have A21 := Aside0.mk A210
        clear A210
        by_cases c22 : t600 = (a0_1.size : Int)
        · rw [if_pos c22] at H
          have c22b0 : (t600 == (a0_1.size : Int)) = true := beq_iff_eq.mpr c22
          have c22b1 : (t600 != (a0_1.size : Int)) = false := bne_eq_false_iff_eq.mpr c22
          clear c22
          replace H := Option.bind_eq_some_iff.mp H
          obtain ⟨t601, A230, H⟩ := H
          replace H : (some t601) = some r := H
          have A23 := Aside0.mk A230
          clear A230
          obtain rfl := Option.some.inj H
          go_enter Tryd.func69, Tryd.ntmps69
          go_wp2_with (first | ((with_reducible refine gate_dst (N := 2) rfl ?_); refine box_event ?hg (N := 2) ?hd (cs := #[.int .i64 a0_0, .string a0_1, .int .i64 a0_2]) (t := 44) ?hr ?_; (case hd => rfl); (case hg => rfl); (case hr => first | (go_simp; done) | (go_simp; rfl)); intro gb597 hg w24 hbox hb; have BK597 := Aside0.mk hbox; have GW597 := geA hg HB; have GE597 := geA hg HB; replace HB := bsA HB hb; clear hb hbox hg; have hcz25_0 : w24.cell? ⟨gb597, 0, none⟩ = some (.int .i64 a0_0) := (blk_cell BK597.out 0).trans rfl; have hcz25_1 : w24.cell? ⟨gb597, 1, none⟩ = some (.string a0_1) := (blk_cell BK597.out 1).trans rfl; have hcz25_2 : w24.cell? ⟨gb597, 2, none⟩ = some (.int .i64 a0_2) := (blk_cell BK597.out 2).trans rfl; have hfz25_0 := blk_frozen BK597.out 0; have hfz25_1 := blk_frozen BK597.out 1; have hfz25_2 := blk_frozen BK597.out 2) | (go_at_call 83; (with_reducible refine (refrainref5_run.calls k a0_1 0 false t600 _ A21.out).mono ?_); rintro e w' ⟨rfl, ⟨nd, rfl⟩⟩) | (go_at_call 85; (with_reducible refine (refrainref5_small.calls k a0_1 t601 _ A23.out).mono ?_); rintro e w' ⟨rfl, ⟨nd, rfl⟩⟩))
          go_ret
          exact ⟨by first | rfl | (simp [errW_none, errW_some] <;> rfl) | (simp [*, errW_none, errW_some] <;> rfl), hbT HB.out⟩
        · rw [if_neg c22] at H
          have c22b0 : (t600 == (a0_1.size : Int)) = false := beq_eq_false_iff_ne.mpr c22
          have c22b1 : (t600 != (a0_1.size : Int)) = true := bne_iff_ne.mpr c22
          obtain rfl := Option.some.inj H
          go_enter Tryd.func69, Tryd.ntmps69
          go_wp2_with (first | ((with_reducible refine gate_dst (N := 2) rfl ?_); refine box_event ?hg (N := 2) ?hd (cs := #[.int .i64 a0_0, .string a0_1, .int .i64 a0_2]) (t := 44) ?hr ?_; (case hd => rfl); (case hg => rfl); (case hr => first | (go_simp; done) | (go_simp; rfl)); intro gb597 hg w26 hbox hb; have BK597 := Aside0.mk hbox; have GW597 := geA hg HB; have GE597 := geA hg HB; replace HB := bsA HB hb; clear hb hbox hg; have hcz27_0 : w26.cell? ⟨gb597, 0, none⟩ = some (.int .i64 a0_0) := (blk_cell BK597.out 0).trans rfl; have hcz27_1 : w26.cell? ⟨gb597, 1, none⟩ = some (.string a0_1) := (blk_cell BK597.out 1).trans rfl; have hcz27_2 : w26.cell? ⟨gb597, 2, none⟩ = some (.int .i64 a0_2) := (blk_cell BK597.out 2).trans rfl; have hfz27_0 := blk_frozen BK597.out 0; have hfz27_1 := blk_frozen BK597.out 1; have hfz27_2 := blk_frozen BK597.out 2) | (go_at_call 83; (with_reducible refine (refrainref5_run.calls k a0_1 0 false t600 _ A21.out).mono ?_); rintro e w' ⟨rfl, ⟨nd, rfl⟩⟩))
          go_ret
          exact ⟨by first | rfl | (simp [errW_none, errW_some] <;> rfl) | (simp [*, errW_none, errW_some] <;> rfl), hbT HB.out⟩
      · rw [if_neg c20] at H
        have c20b0 : decide (0 < (a0_1.size : Int)) = false := decide_eq_false c20
        have c20b1 : decide (0 < a0_1.size) = false := decide_eq_false (by omega)
        clear c20
        obtain rfl := Option.some.inj H
        go_enter Tryd.func69, Tryd.ntmps69
        go_wp2_with (first | ((with_reducible refine gate_dst (N := 2) rfl ?_); refine box_event ?hg (N := 2) ?hd (cs := #[.int .i64 a0_0, .string a0_1, .int .i64 a0_2]) (t := 44) ?hr ?_; (case hd => rfl); (case hg => rfl); (case hr => first | (go_simp; done) | (go_simp; rfl)); intro gb597 hg w28 hbox hb; have BK597 := Aside0.mk hbox; have GW597 := geA hg HB; have GE597 := geA hg HB; replace HB := bsA HB hb; clear hb hbox hg; have hcz29_0 : w28.cell? ⟨gb597, 0, none⟩ = some (.int .i64 a0_0) := (blk_cell BK597.out 0).trans rfl; have hcz29_1 : w28.cell? ⟨gb597, 1, none⟩ = some (.string a0_1) := (blk_cell BK597.out 1).trans rfl; have hcz29_2 : w28.cell? ⟨gb597, 2, none⟩ = some (.int .i64 a0_2) := (blk_cell BK597.out 2).trans rfl; have hfz29_0 := blk_frozen BK597.out 0; have hfz29_1 := blk_frozen BK597.out 1; have hfz29_2 := blk_frozen BK597.out 2))
        go_ret
        exact ⟨by first | rfl | (simp [errW_none, errW_some] <;> rfl) | (simp [*, errW_none, errW_some] <;> rfl), hbT HB.out⟩
    · rw [if_neg c19] at H
      have c19b0 : (a0_0 == 2) = false := beq_eq_false_iff_ne.mpr c19
      have c19b1 : (a0_0 != 2) = true := bne_iff_ne.mpr c19
      by_cases c30 : a0_0 = 3
      · rw [if_pos c30] at H
        have c30b0 : (a0_0 == 3) = true := beq_iff_eq.mpr c30
        have c30b1 : (a0_0 != 3) = false := bne_eq_false_iff_eq.mpr c30
        clear c30
        obtain rfl := Option.some.inj H
        go_enter Tryd.func69, Tryd.ntmps69
        go_wp2_with (first | ((with_reducible refine gate_dst (N := 2) rfl ?_); refine box_event ?hg (N := 2) ?hd (cs := #[.int .i64 a0_0, .string a0_1, .int .i64 a0_2]) (t := 44) ?hr ?_; (case hd => rfl); (case hg => rfl); (case hr => first | (go_simp; done) | (go_simp; rfl)); intro gb597 hg w31 hbox hb; have BK597 := Aside0.mk hbox; have GW597 := geA hg HB; have GE597 := geA hg HB; replace HB := bsA HB hb; clear hb hbox hg; have hcz32_0 : w31.cell? ⟨gb597, 0, none⟩ = some (.int .i64 a0_0) := (blk_cell BK597.out 0).trans rfl; have hcz32_1 : w31.cell? ⟨gb597, 1, none⟩ = some (.string a0_1) := (blk_cell BK597.out 1).trans rfl; have hcz32_2 : w31.cell? ⟨gb597, 2, none⟩ = some (.int .i64 a0_2) := (blk_cell BK597.out 2).trans rfl; have hfz32_0 := blk_frozen BK597.out 0; have hfz32_1 := blk_frozen BK597.out 1; have hfz32_2 := blk_frozen BK597.out 2))
        go_ret
        exact ⟨by first | rfl | (simp [errW_none, errW_some] <;> rfl) | (simp [*, errW_none, errW_some] <;> rfl), hbT HB.out⟩
      · rw [if_neg c30] at H
        have c30b0 : (a0_0 == 3) = false := beq_eq_false_iff_ne.mpr c30
        have c30b1 : (a0_0 != 3) = true := bne_iff_ne.mpr c30
        by_cases c33 : a0_0 = 4
        · rw [if_pos c33] at H
          have c33b0 : (a0_0 == 4) = true := beq_iff_eq.mpr c33
          have c33b1 : (a0_0 != 4) = false := bne_eq_false_iff_eq.mpr c33
          clear c33
          replace H := Option.bind_eq_some_iff.mp H
          obtain ⟨t602, A340, H⟩ := H
          replace H : ((refrainref5_among.f k t602 a0_1).bind fun t605 => (some t605)) = some r := H
          have A34 := Aside0.mk A340
          clear A340
          replace H := Option.bind_eq_some_iff.mp H
          obtain ⟨t605, A350, H⟩ := H
          replace H : (some t605) = some r := H
          have A35 := Aside0.mk A350
          clear A350
          obtain rfl := Option.some.inj H
          go_enter Tryd.func69, Tryd.ntmps69
          try go_wp2_with (first | ((with_reducible refine gate_dst (N := 2) rfl ?_); refine box_event ?hg (N := 2) ?hd (cs := #[.int .i64 a0_0, .string a0_1, .int .i64 a0_2]) (t := 44) ?hr ?_; (case hd => rfl); (case hg => rfl); (case hr => first | (go_simp; done) | (go_simp; rfl)); intro gb597 hg w36 hbox hb; have BK597 := Aside0.mk hbox; have GW597 := geA hg HB; have GE597 := geA hg HB; replace HB := bsA HB hb; clear hb hbox hg; have hcz37_0 : w36.cell? ⟨gb597, 0, none⟩ = some (.int .i64 a0_0) := (blk_cell BK597.out 0).trans rfl; have hcz37_1 : w36.cell? ⟨gb597, 1, none⟩ = some (.string a0_1) := (blk_cell BK597.out 1).trans rfl; have hcz37_2 : w36.cell? ⟨gb597, 2, none⟩ = some (.int .i64 a0_2) := (blk_cell BK597.out 2).trans rfl; have hfz37_0 := blk_frozen BK597.out 0; have hfz37_1 := blk_frozen BK597.out 1; have hfz37_2 := blk_frozen BK597.out 2))
          replace BK597 := bdA BK597; replace HB := Aside0.mk (below_drew1 HB.out)
          refine start_ (n := 5) (S := fun w' => w'.cell? ⟨gb597, 0, none⟩ = some (.int .i64 a0_0) ∧ w'.cell? ⟨gb597, 1, none⟩ = some (.string a0_1) ∧ w'.cell? ⟨gb597, 2, none⟩ = some (.int .i64 a0_2)) (ds := []) #[false, false, false, false, false] (by kernel_rfl) rfl rfl ⟨(blk_cell BK597.out 0).trans rfl, (blk_cell BK597.out 1).trans rfl, (blk_cell BK597.out 2).trans rfl⟩ (fun hHeld => ?_)
          generalize w36.drew = w38 at BK597 HB hHeld ⊢
          refine pure_ (i := 1) (N := some 55) (v := ?_) (a' := ?_) #[false, true, false, false, false] rfl rfl (by kernel_rfl) (fun _ _ _ h => h) (Or.inl ⟨by rfl, ?_⟩) ?_ ?_
          rotate_left; (focus (intro w'; go_simp; with_reducible rfl)); rotate_left; (focus (simp only [Act.put, List.setIfInBounds_toArray, List.set_cons_zero, List.set_cons_succ, i64_w, i32_w, IntKind.wrap_u8, IntKind.wrap_u16, IntKind.wrap_u32]; rfl))
          refine take_ (i := 2) (N := some 56) (v := ?_) (a' := ?_) #[false, true, true, false, false] rfl rfl (by kernel_rfl) (fun _ _ _ h => h) (Or.inl ⟨by rfl, ?_⟩) hHeld ?_ ?_
          rotate_left; (focus (rintro w' ⟨s0, s1, s2⟩; go_simp; with_reducible rfl)); rotate_left; (focus (simp only [Act.put, List.setIfInBounds_toArray, List.set_cons_zero, List.set_cons_succ, i64_w, i32_w, IntKind.wrap_u8, IntKind.wrap_u16, IntKind.wrap_u32]; rfl))
          refine one_ (i := 0) (N := some 54) #[true, true, true, false, false] rfl rfl (by kernel_rfl) (by decide) (fun K hK => ?_)
          refine goes_ Tryd.func87 (by kernel_rfl) rfl #[] (by rfl) rfl rfl (by (try simp only [List.map_toArray, List.map_cons, List.map_nil]); first | done | rfl | (simp only [List.length_drop, List.length_take]; rfl)) ?_
          with_reducible refine (refrainref5_signs.calls  t602 _ A34.out).mono ?_
          rintro e w39 ⟨v603, rfl, ho0, hb⟩
          refine ⟨_, rfl, ?_⟩
          have HO604 := Aside0.mk (Kd.R_lower ho0 (below_size (hbT HB.out))); replace BK597 := bbA BK597 hb; replace HB := bsA HB hb
          (try clear hb); (try clear hb2); (try clear hk); (try clear hi)
          (try clear ho0)
          obtain ⟨Ao40, co40, eo40⟩ := Kd.R_slice HO604.out
          (first | subst eo40 | (injection eo40 with f1_ f2_ f3_; have f4_ := f1_.symm; have f5_ := f3_.symm; clear f1_ f2_ f3_; subst f4_; subst f5_))
          refine hK.out _ _ ⟨(blk_cell BK597.out 0).trans rfl, (blk_cell BK597.out 1).trans rfl, (blk_cell BK597.out 2).trans rfl⟩ (fun hHeld => ?_)
          clear hK K
          refine norm_ (a' := ?_) ?_ ?_
          rotate_left
          · show Act.put _ (some 54) _ = _
            simp only [Act.put, List.setIfInBounds_toArray, List.set_cons_zero, List.set_cons_succ, i64_w, i32_w, IntKind.wrap_u8, IntKind.wrap_u16, IntKind.wrap_u32]
            rfl
          refine one_ (i := 3) (N := some 57) #[true, true, true, true, false] rfl rfl (by kernel_rfl) (by decide) (fun K hK => ?_)
          refine goes_ Tryd.func71 (by kernel_rfl) rfl #[.slice Ao40 t602.length co40, .string a0_1] (by rfl) rfl rfl (by (try simp only [List.map_toArray, List.map_cons, List.map_nil]); first | done | rfl | (simp only [List.length_drop, List.length_take]; rfl)) ?_
          with_reducible refine (refrainref5_among.calls k _ _ t602 a0_1 t605 _ ?side1 ?side2 A35.out).mono ?_
          (case side1 => repeat (first | exact (Kd.R_reads' HO604.out).2.2 | (with_reducible refine Kd.C_alloc ?_ _) | (with_reducible refine Kd.C_drewN ?_ _) | (with_reducible refine Kd.C_drew ?_)))
          (case side2 => exact (Kd.R_reads' HO604.out).2.1)
          rintro e w' ⟨rfl, ⟨nd, rfl⟩⟩
          refine ⟨_, rfl, ?_⟩
          refine hK.out _ _ ⟨(blk_cell BK597.out 0).trans rfl, (blk_cell BK597.out 1).trans rfl, (blk_cell BK597.out 2).trans rfl⟩ (fun hHeld => ?_)
          clear hK K
          refine norm_ (a' := ?_) ?_ ?_
          rotate_left
          · show Act.put _ (some 57) _ = _
            simp only [Act.put, List.setIfInBounds_toArray, List.set_cons_zero, List.set_cons_succ, i64_w, i32_w, IntKind.wrap_u8, IntKind.wrap_u16, IntKind.wrap_u32]
            rfl
          refine pure_ (i := 4) (N := some 4) (v := ?_) (a' := ?_) #[true, true, true, true, true] rfl rfl (by kernel_rfl) (fun _ _ _ h => h) (Or.inl ⟨by rfl, ?_⟩) ?_ ?_
          rotate_left; (focus (intro w'; go_simp; with_reducible rfl)); rotate_left; (focus (simp only [Act.put, List.setIfInBounds_toArray, List.set_cons_zero, List.set_cons_succ, i64_w, i32_w, IntKind.wrap_u8, IntKind.wrap_u16, IntKind.wrap_u32]; rfl))
          refine done_ (by kernel_rfl) ?_
          try go_wp2
          go_ret
          exact ⟨by first | rfl | (simp [errW_none, errW_some] <;> rfl) | (simp [*, errW_none, errW_some] <;> rfl), hbT HB.out⟩
        · rw [if_neg c33] at H
          have c33b0 : (a0_0 == 4) = false := beq_eq_false_iff_ne.mpr c33
          have c33b1 : (a0_0 != 4) = true := bne_iff_ne.mpr c33
          by_cases c41 : a0_0 = 5
          · rw [if_pos c41] at H
            have c41b0 : (a0_0 == 5) = true := beq_iff_eq.mpr c41
            have c41b1 : (a0_0 != 5) = false := bne_eq_false_iff_eq.mpr c41
            clear c41
            by_cases c42 : (a0_1.size : Int) = 0
            · rw [if_pos c42] at H
              have c42b0 : ((a0_1.size : Int) == 0) = true := beq_iff_eq.mpr c42
              have c42b1 : ((a0_1.size : Int) != 0) = false := bne_eq_false_iff_eq.mpr c42
              clear c42
              obtain rfl := Option.some.inj H
              go_enter Tryd.func69, Tryd.ntmps69
              go_wp2_with (first | ((with_reducible refine gate_dst (N := 2) rfl ?_); refine box_event ?hg (N := 2) ?hd (cs := #[.int .i64 a0_0, .string a0_1, .int .i64 a0_2]) (t := 44) ?hr ?_; (case hd => rfl); (case hg => rfl); (case hr => first | (go_simp; done) | (go_simp; rfl)); intro gb597 hg w43 hbox hb; have BK597 := Aside0.mk hbox; have GW597 := geA hg HB; have GE597 := geA hg HB; replace HB := bsA HB hb; clear hb hbox hg; have hcz44_0 : w43.cell? ⟨gb597, 0, none⟩ = some (.int .i64 a0_0) := (blk_cell BK597.out 0).trans rfl; have hcz44_1 : w43.cell? ⟨gb597, 1, none⟩ = some (.string a0_1) := (blk_cell BK597.out 1).trans rfl; have hcz44_2 : w43.cell? ⟨gb597, 2, none⟩ = some (.int .i64 a0_2) := (blk_cell BK597.out 2).trans rfl; have hfz44_0 := blk_frozen BK597.out 0; have hfz44_1 := blk_frozen BK597.out 1; have hfz44_2 := blk_frozen BK597.out 2))
              go_ret
              exact ⟨by first | rfl | (simp [errW_none, errW_some] <;> rfl) | (simp [*, errW_none, errW_some] <;> rfl), hbT HB.out⟩
            · rw [if_neg c42] at H
              have c42b0 : ((a0_1.size : Int) == 0) = false := beq_eq_false_iff_ne.mpr c42
              have c42b1 : ((a0_1.size : Int) != 0) = true := bne_iff_ne.mpr c42
              obtain rfl := Option.some.inj H
              go_enter Tryd.func69, Tryd.ntmps69
              go_wp2_with (first | ((with_reducible refine gate_dst (N := 2) rfl ?_); refine box_event ?hg (N := 2) ?hd (cs := #[.int .i64 a0_0, .string a0_1, .int .i64 a0_2]) (t := 44) ?hr ?_; (case hd => rfl); (case hg => rfl); (case hr => first | (go_simp; done) | (go_simp; rfl)); intro gb597 hg w45 hbox hb; have BK597 := Aside0.mk hbox; have GW597 := geA hg HB; have GE597 := geA hg HB; replace HB := bsA HB hb; clear hb hbox hg; have hcz46_0 : w45.cell? ⟨gb597, 0, none⟩ = some (.int .i64 a0_0) := (blk_cell BK597.out 0).trans rfl; have hcz46_1 : w45.cell? ⟨gb597, 1, none⟩ = some (.string a0_1) := (blk_cell BK597.out 1).trans rfl; have hcz46_2 : w45.cell? ⟨gb597, 2, none⟩ = some (.int .i64 a0_2) := (blk_cell BK597.out 2).trans rfl; have hfz46_0 := blk_frozen BK597.out 0; have hfz46_1 := blk_frozen BK597.out 1; have hfz46_2 := blk_frozen BK597.out 2))
              go_ret
              exact ⟨by first | rfl | (simp [errW_none, errW_some] <;> rfl) | (simp [*, errW_none, errW_some] <;> rfl), hbT HB.out⟩
          · rw [if_neg c41] at H
            have c41b0 : (a0_0 == 5) = false := beq_eq_false_iff_ne.mpr c41
            have c41b1 : (a0_0 != 5) = true := bne_iff_ne.mpr c41
            obtain rfl := Option.some.inj H
            go_enter Tryd.func69, Tryd.ntmps69
            go_wp2_with (first | ((with_reducible refine gate_dst (N := 2) rfl ?_); refine box_event ?hg (N := 2) ?hd (cs := #[.int .i64 a0_0, .string a0_1, .int .i64 a0_2]) (t := 44) ?hr ?_; (case hd => rfl); (case hg => rfl); (case hr => first | (go_simp; done) | (go_simp; rfl)); intro gb597 hg w47 hbox hb; have BK597 := Aside0.mk hbox; have GW597 := geA hg HB; have GE597 := geA hg HB; replace HB := bsA HB hb; clear hb hbox hg; have hcz48_0 : w47.cell? ⟨gb597, 0, none⟩ = some (.int .i64 a0_0) := (blk_cell BK597.out 0).trans rfl; have hcz48_1 : w47.cell? ⟨gb597, 1, none⟩ = some (.string a0_1) := (blk_cell BK597.out 1).trans rfl; have hcz48_2 : w47.cell? ⟨gb597, 2, none⟩ = some (.int .i64 a0_2) := (blk_cell BK597.out 2).trans rfl; have hfz48_0 := blk_frozen BK597.out 0; have hfz48_1 := blk_frozen BK597.out 1; have hfz48_2 := blk_frozen BK597.out 2))
            go_ret
            exact ⟨by first | rfl | (simp [errW_none, errW_some] <;> rfl) | (simp [*, errW_none, errW_some] <;> rfl), hbT HB.out⟩

end Go.Proofs.YthmcapdakplhdaaDoor.Pr
end

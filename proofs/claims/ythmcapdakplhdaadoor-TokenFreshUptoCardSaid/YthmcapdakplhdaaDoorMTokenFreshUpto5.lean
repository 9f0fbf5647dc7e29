/-
Part 5 of the proof of the law TokenFreshUpto: texts Prx28, Prx29, Prx30, Prx31, PrxTF, OpnTokenFreshU, PuR1.
-/
import Derived.Test.YthmcapdakplhdaaDoorMTokenFreshUpto0
import Derived.Test.YthmcapdakplhdaaDoorMTokenFreshUpto1
import Derived.Test.YthmcapdakplhdaaDoorMTokenFreshUpto2
import Derived.Test.YthmcapdakplhdaaDoorMTokenFreshUpto3
import Derived.Test.YthmcapdakplhdaaDoorMTokenFreshUpto4
/-! ## text Prx28 -/
section
namespace Go.Proofs.YthmcapdakplhdaaDoor.Pr
open Go.RowKit Go.Proofs.YthmcapdakplhdaaDoorW.PrintWords Go.Proofs.YthmcapdakplhdaaDoorW.PrintLast Go.Proofs.YthmcapdakplhdaaDoorW.PrintMore
attribute [local go_sem] max2_int min2_int max_two min_two max_three min_three max_four min_four   -- for this text's walks alone
attribute [local go_sem high] Go.Proofs.YthmcapdakplhdaaDoor.isSome_setCell
set_option maxRecDepth 100000
set_option linter.unusedVariables false
set_option linter.unusedSimpArgs false

/-! ### refrainref5_one: function 68 -/
def refrainref5_one.l0 : Nat → ByteArray → Int → List ByteArray → Int → Option (Int × ByteArray × Int × Int × Int × Int)
  | 0, _, _, _, _ => none
  | k + 1, x0, x1, x8, x9 => if x9 < (x8.length : Int) then (if 0 ≤ x9 then (if (wrap64 (x1 + ((rdOf ByteArray.empty x8 x9).size : Int))) ≤ (x0.size : Int) then (if 0 ≤ x1 then (if x1 ≤ (wrap64 (x1 + ((rdOf ByteArray.empty x8 x9).size : Int))) then (if (x0.extract (x1 : Int).toNat ((wrap64 (x1 + ((rdOf ByteArray.empty x8 x9).size : Int))) : Int).toNat).toList = (rdOf ByteArray.empty x8 x9).toList then (some (4, rdOf ByteArray.empty x8 x9, x1, wrap64 (x1 + ((rdOf ByteArray.empty x8 x9).size : Int)), 0, 0)) else (refrainref5_one.l0 k x0 x1 x8 (wrap64 (x9 + 1)))) else (none)) else (none)) else (refrainref5_one.l0 k x0 x1 x8 (wrap64 (x9 + 1)))) else (none)) else (some (0, (⟨#[]⟩ : ByteArray), 0, 0, x1, 50))
def refrainref5_one.f (k : Nat) (a0 : ByteArray) (a1 : Int) : Option (Int × ByteArray × Int × Int × Int × Int) := if 0 ≤ a1 then (if a1 < (a0.size : Int) then ((refrainref5_letter.f (bt a0 a1)).bind fun t563 => (if t563 = true then ((refrainref5_run.f k a0 a1 true).bind fun t564 => (if (wrap64 (t564 - a1)) > 32 then (some (0, (⟨#[]⟩ : ByteArray), 0, 0, a1, 51)) else (if a1 ≤ t564 then (if t564 ≤ (a0.size : Int) then (some (1, a0.extract (a1 : Int).toNat (t564 : Int).toNat, a1, t564, 0, 0)) else (none)) else (none)))) else ((refrainref5_digit.f (bt a0 a1)).bind fun t565 => (if t565 = true then ((refrainref5_run.f k a0 a1 false).bind fun t566 => (if a1 ≤ t566 then (if t566 ≤ (a0.size : Int) then ((refrainref5_small.f k (a0.extract (a1 : Int).toNat (t566 : Int).toNat)).bind fun t567 => (if t567 = true then (if t566 < (a0.size : Int) then (if 0 ≤ t566 then ((refrainref5_letter.f (bt a0 t566)).bind fun t568 => (if t568 = true then (some (0, (⟨#[]⟩ : ByteArray), 0, 0, a1, 51)) else (some (2, a0.extract (a1 : Int).toNat (t566 : Int).toNat, a1, t566, 0, 0)))) else (none)) else (some (2, a0.extract (a1 : Int).toNat (t566 : Int).toNat, a1, t566, 0, 0))) else (some (0, (⟨#[]⟩ : ByteArray), 0, 0, a1, 51)))) else (none)) else (none))) else (if (bt a0 a1) = 34 then ((refrainref5_str.f k a0 a1).bind fun bt569 => (some (bt569.1, bt569.2.1, bt569.2.2.1, bt569.2.2.2.1, bt569.2.2.2.2.1, bt569.2.2.2.2.2))) else ((refrainref5_signs.f).bind fun t575 => (refrainref5_one.l0 k a0 a1 t575 0))))))) else (none)) else (none)
set_option maxRecDepth 100000 in
theorem refrainref5_one.l0_zero : ∀ y0 y1 y2 y3, refrainref5_one.l0 0 y0 y1 y2 y3 = none := fun _ _ _ _ => rfl
set_option maxRecDepth 100000 in
theorem refrainref5_one.mono_l : ∀ k, (∀ y0 y1 y2 y3, LeO (refrainref5_one.l0 k y0 y1 y2 y3) (refrainref5_one.l0 (k + 1) y0 y1 y2 y3))
  | 0 => fun _ _ _ _ r h => by (unfold refrainref5_one.l0 at h; cases h)
  | k + 1 => by
    have ih0 := refrainref5_one.mono_l k
    · intro y0 y1 y2 y3
      unfold refrainref5_one.l0
      repeat' first
      | (with_reducible exact ih0 _ _ _ _)
      | (with_reducible exact refrainref5_run.mono _ _ _ _)
      | (with_reducible exact refrainref5_small.mono _ _)
      | (with_reducible exact refrainref5_str.mono _ _ _)
      | (with_reducible exact LeO.refl _)
      | (with_reducible exact LeO.none _)
      | (with_reducible refine LeO.ite ?_ ?_)
      | (with_reducible refine LeO.bind ?_ (fun _ => ?_))
      | exact ih0 _ _ _ _
      | exact refrainref5_run.mono _ _ _ _
      | exact refrainref5_small.mono _ _
      | exact refrainref5_str.mono _ _ _
      | exact LeO.none _
      | refine LeO.ite ?_ ?_
      | refine LeO.bind ?_ (fun _ => ?_)
set_option maxRecDepth 100000 in
theorem refrainref5_one.mono : ∀ a0 a1 k, LeO (refrainref5_one.f k a0 a1) (refrainref5_one.f (k + 1) a0 a1) := by
  intro a0 a1 k
  have ih0 := refrainref5_one.mono_l k
  unfold refrainref5_one.f
  repeat' first
      | (with_reducible exact ih0 _ _ _ _)
      | (with_reducible exact refrainref5_run.mono _ _ _ _)
      | (with_reducible exact refrainref5_small.mono _ _)
      | (with_reducible exact refrainref5_str.mono _ _ _)
      | (with_reducible exact LeO.refl _)
      | (with_reducible exact LeO.none _)
      | (with_reducible refine LeO.ite ?_ ?_)
      | (with_reducible refine LeO.bind ?_ (fun _ => ?_))
      | exact ih0 _ _ _ _
      | exact refrainref5_run.mono _ _ _ _
      | exact refrainref5_small.mono _ _
      | exact refrainref5_str.mono _ _ _
      | exact LeO.none _
      | refine LeO.ite ?_ ?_
      | refine LeO.bind ?_ (fun _ => ?_)
set_option maxHeartbeats 8000000 in
set_option maxRecDepth 100000 in
theorem refrainref5_one.calls (k : Nat) (a0 : ByteArray) (a1 : Int) (r1 : Int) (r2 : ByteArray) (r3 : Int) (r4 : Int) (r5 : Int) (r6 : Int) (w : World) (h : refrainref5_one.f k a0 a1 = some (r1, r2, r3, r4, r5, r6)) :
    Calls Tryd.prog 68 #[.string a0, .int .i64 a1] w fun e w' => e = .returned (.agg #[.int .i64 r1, .string r2, .int .i64 r3, .int .i64 r4, .int .i64 r5, .int .i64 r6]) ∧ Below w.heap.size w w' := by
  have hu113 := Tryd.underlying113
  have hu44 := Tryd.underlying44
  have HB := Aside0.mk (Below.refl w.heap.size w)
  have H : (if 0 ≤ a1 then (if a1 < (a0.size : Int) then ((refrainref5_letter.f (bt a0 a1)).bind fun t563 => (if t563 = true then ((refrainref5_run.f k a0 a1 true).bind fun t564 => (if (wrap64 (t564 - a1)) > 32 then (some (0, (⟨#[]⟩ : ByteArray), 0, 0, a1, 51)) else (if a1 ≤ t564 then (if t564 ≤ (a0.size : Int) then (some (1, a0.extract (a1 : Int).toNat (t564 : Int).toNat, a1, t564, 0, 0)) else (none)) else (none)))) else ((refrainref5_digit.f (bt a0 a1)).bind fun t565 => (if t565 = true then ((refrainref5_run.f k a0 a1 false).bind fun t566 => (if a1 ≤ t566 then (if t566 ≤ (a0.size : Int) then ((refrainref5_small.f k (a0.extract (a1 : Int).toNat (t566 : Int).toNat)).bind fun t567 => (if t567 = true then (if t566 < (a0.size : Int) then (if 0 ≤ t566 then ((refrainref5_letter.f (bt a0 t566)).bind fun t568 => (if t568 = true then (some (0, (⟨#[]⟩ : ByteArray), 0, 0, a1, 51)) else (some (2, a0.extract (a1 : Int).toNat (t566 : Int).toNat, a1, t566, 0, 0)))) else (none)) else (some (2, a0.extract (a1 : Int).toNat (t566 : Int).toNat, a1, t566, 0, 0))) else (some (0, (⟨#[]⟩ : ByteArray), 0, 0, a1, 51)))) else (none)) else (none))) else (if (bt a0 a1) = 34 then ((refrainref5_str.f k a0 a1).bind fun bt569 => (some (bt569.1, bt569.2.1, bt569.2.2.1, bt569.2.2.2.1, bt569.2.2.2.2.1, bt569.2.2.2.2.2))) else ((refrainref5_signs.f).bind fun t575 => (refrainref5_one.l0 k a0 a1 t575 0))))))) else (none)) else (none)) = some (r1, r2, r3, r4, r5, r6) := h
  clear h
  by_cases c3 : 0 ≤ a1
  · rw [if_pos c3] at H
    have c3b0 : decide (0 ≤ a1) = true := decide_eq_true c3
    clear c3
    by_cases c4 : a1 < (a0.size : Int)
    · rw [if_pos c4] at H
      have c4b0 : decide (a1 < (a0.size : Int)) = true := decide_eq_true c4
      clear c4
      replace H := Option.bind_eq_some_iff.mp H
      obtain ⟨t563, A60, H⟩ := H
      replace H : (if t563 = true then ((refrainref5_run.f k a0 a1 true).bind fun t564 => (if (wrap64 (t564 - a1)) > 32 then (some (0, (⟨#[]⟩ : ByteArray), 0, 0, a1, 51)) else (if a1 ≤ t564 then (if t564 ≤ (a0.size : Int) then (some (1, a0.extract (a1 : Int).toNat (t564 : Int).toNat, a1, t564, 0, 0)) else (none)) else (none)))) else ((refrainref5_digit.f (bt a0 a1)).bind fun t565 => (if t565 = true then ((refrainref5_run.f k a0 a1 false).bind fun t566 => (if a1 ≤ t566 then (if t566 ≤ (a0.size : Int) then ((refrainref5_small.f k (a0.extract (a1 : Int).toNat (t566 : Int).toNat)).bind fun t567 => (if t567 = true then (if t566 < (a0.size : Int) then (if 0 ≤ t566 then ((refrainref5_letter.f (bt a0 t566)).bind fun t568 => (if t568 = true then (some (0, (⟨#[]⟩ : ByteArray), 0, 0, a1, 51)) else (some (2, a0.extract (a1 : Int).toNat (t566 : Int).toNat, a1, t566, 0, 0)))) else (none)) else (some (2, a0.extract (a1 : Int).toNat (t566 : Int).toNat, a1, t566, 0, 0))) else (some (0, (⟨#[]⟩ : ByteArray), 0, 0, a1, 51)))) else (none)) else (none))) else (if (bt a0 a1) = 34 then ((refrainref5_str.f k a0 a1).bind fun bt569 => (some (bt569.1, bt569.2.1, bt569.2.2.1, bt569.2.2.2.1, bt569.2.2.2.2.1, bt569.2.2.2.2.2))) else ((refrainref5_signs.f).bind fun t575 => (refrainref5_one.l0 k a0 a1 t575 0)))))) = some (r1, r2, r3, r4, r5, r6) := H
      have A6 := Aside0.mk A60
      clear A60
      by_cases c7 : t563 = true
      · subst c7
        have H1 : ((refrainref5_run.f k a0 a1 true).bind fun t564 => (if (wrap64 (t564 - a1)) > 32 then (some (0, (⟨#[]⟩ : ByteArray), 0, 0, a1, 51)) else (if a1 ≤ t564 then (if t564 ≤ (a0.size : Int) then (some (1, a0.extract (a1 : Int).toNat (t564 : Int).toNat, a1, t564, 0, 0)) else (none)) else (none)))) = some (r1, r2, r3, r4, r5, r6) := by rw [if_pos rfl] at H; exact H
        clear H
        have H := H1
        clear H1
        replace H := Option.bind_eq_some_iff.mp H
        obtain ⟨t564, A80, H⟩ := H
        replace H : (if (wrap64 (t564 - a1)) > 32 then (some (0, (⟨#[]⟩ : ByteArray), 0, 0, a1, 51)) else (if a1 ≤ t564 then (if t564 ≤ (a0.size : Int) then (some (1, a0.extract (a1 : Int).toNat (t564 : Int).toNat, a1, t564, 0, 0)) else (none)) else (none))) = some (r1, r2, r3, r4, r5, r6) := H
        have A8 := Aside0.mk A80
        clear A80
        by_cases c9 : (wrap64 (t564 - a1)) > 32
        · rw [if_pos c9] at H
          have c9b0 : decide (32 < (wrap64 (t564 - a1))) = true := decide_eq_true c9
          clear c9
          simp only [Option.some.injEq, Prod.mk.injEq] at H
          obtain ⟨rfl, rfl, rfl, rfl, rfl, rfl⟩ := H
          go_enter Tryd.func68, Tryd.ntmps68
          go_wp2_with (first | ((with_reducible refine gate_dst (N := 4) rfl ?_); (try (refine gate_guard (by rfl) ?_; dsimp only)); refine box_event ?hg (N := 4) ?hd (cs := #[.int .i64 0, .string (⟨#[]⟩ : ByteArray), .int .i64 0, .int .i64 0, .int .i64 0, .int .i64 0]) (t := 113) ?hr ?_; (case hd => rfl); (case hg => rfl); (case hr => first | (go_simp; done) | (go_simp; rfl)); intro gb562 hg w10 hbox hb; have BK562 := Aside0.mk hbox; have GW562 := geA hg HB; have GE562 := geA hg HB; replace HB := bsA HB hb; clear hb hbox hg; have p5 : 0 ≤ (a1 : Int) := of_decide_eq_true (by first | (with_reducible assumption) | assumption); have q5 : a1 < (a0.size : Int) := of_decide_eq_true (by first | (with_reducible assumption) | assumption); have hx5 := bt_at a0 a1; replace p5 := eq_true p5; replace q5 := eq_true q5) | (go_at_call 82; (with_reducible refine (refrainref5_letter.calls (bt a0 a1) true _ A6.out).mono ?_); rintro e w' ⟨rfl, ⟨nd, rfl⟩⟩; (try first | exact ⟨rfl, _, World.drewN_drewN _ _ _⟩ | exact ⟨rfl, _, Eq.trans (World.drewN_drewN _ _ _) (congrArg (World.drewN _) (Nat.add_assoc _ _ _))⟩)) | (go_at_call 83; (with_reducible refine (refrainref5_run.calls k a0 a1 true t564 _ A8.out).mono ?_); rintro e w' ⟨rfl, ⟨nd, rfl⟩⟩; (try first | exact ⟨rfl, _, World.drewN_drewN _ _ _⟩ | exact ⟨rfl, _, Eq.trans (World.drewN_drewN _ _ _) (congrArg (World.drewN _) (Nat.add_assoc _ _ _))⟩); have hcz11_0 : w10.cell? ⟨gb562, 0, none⟩ = some (.int .i64 0) := (blk_cell BK562.out 0).trans rfl; have hcz11_1 : w10.cell? ⟨gb562, 1, none⟩ = some (.string (⟨#[]⟩ : ByteArray)) := (blk_cell BK562.out 1).trans rfl; have hcz11_2 : w10.cell? ⟨gb562, 2, none⟩ = some (.int .i64 0) := (blk_cell BK562.out 2).trans rfl; have hcz11_3 : w10.cell? ⟨gb562, 3, none⟩ = some (.int .i64 0) := (blk_cell BK562.out 3).trans rfl; have hcz11_4 : w10.cell? ⟨gb562, 4, none⟩ = some (.int .i64 0) := (blk_cell BK562.out 4).trans rfl; have hcz11_5 : w10.cell? ⟨gb562, 5, none⟩ = some (.int .i64 0) := (blk_cell BK562.out 5).trans rfl; have hfz11_0 := blk_frozen BK562.out 0; have hfz11_1 := blk_frozen BK562.out 1; have hfz11_2 := blk_frozen BK562.out 2; have hfz11_3 := blk_frozen BK562.out 3; have hfz11_4 := blk_frozen BK562.out 4; have hfz11_5 := blk_frozen BK562.out 5))
          repeat (go_quiet (first | ((with_reducible refine gate_dst (N := 4) rfl ?_); (try (refine gate_guard (by rfl) ?_; dsimp only)); refine box_event ?hg (N := 4) ?hd (cs := #[.int .i64 0, .string (⟨#[]⟩ : ByteArray), .int .i64 0, .int .i64 0, .int .i64 0, .int .i64 0]) (t := 113) ?hr ?_; (case hd => rfl); (case hg => rfl); (case hr => first | (go_simp; done) | (go_simp; rfl)); intro gb562 hg w10 hbox hb; have BK562 := Aside0.mk hbox; have GW562 := geA hg HB; have GE562 := geA hg HB; replace HB := bsA HB hb; clear hb hbox hg; have p5 : 0 ≤ (a1 : Int) := of_decide_eq_true (by first | (with_reducible assumption) | assumption); have q5 : a1 < (a0.size : Int) := of_decide_eq_true (by first | (with_reducible assumption) | assumption); have hx5 := bt_at a0 a1; replace p5 := eq_true p5; replace q5 := eq_true q5) | (go_at_call 82; (with_reducible refine (refrainref5_letter.calls (bt a0 a1) true _ A6.out).mono ?_); rintro e w' ⟨rfl, ⟨nd, rfl⟩⟩; (try first | exact ⟨rfl, _, World.drewN_drewN _ _ _⟩ | exact ⟨rfl, _, Eq.trans (World.drewN_drewN _ _ _) (congrArg (World.drewN _) (Nat.add_assoc _ _ _))⟩)) | (go_at_call 83; (with_reducible refine (refrainref5_run.calls k a0 a1 true t564 _ A8.out).mono ?_); rintro e w' ⟨rfl, ⟨nd, rfl⟩⟩; (try first | exact ⟨rfl, _, World.drewN_drewN _ _ _⟩ | exact ⟨rfl, _, Eq.trans (World.drewN_drewN _ _ _) (congrArg (World.drewN _) (Nat.add_assoc _ _ _))⟩); have hcz11_0 : w10.cell? ⟨gb562, 0, none⟩ = some (.int .i64 0) := (blk_cell BK562.out 0).trans rfl; have hcz11_1 : w10.cell? ⟨gb562, 1, none⟩ = some (.string (⟨#[]⟩ : ByteArray)) := (blk_cell BK562.out 1).trans rfl; have hcz11_2 : w10.cell? ⟨gb562, 2, none⟩ = some (.int .i64 0) := (blk_cell BK562.out 2).trans rfl; have hcz11_3 : w10.cell? ⟨gb562, 3, none⟩ = some (.int .i64 0) := (blk_cell BK562.out 3).trans rfl; have hcz11_4 : w10.cell? ⟨gb562, 4, none⟩ = some (.int .i64 0) := (blk_cell BK562.out 4).trans rfl; have hcz11_5 : w10.cell? ⟨gb562, 5, none⟩ = some (.int .i64 0) := (blk_cell BK562.out 5).trans rfl; have hfz11_0 := blk_frozen BK562.out 0; have hfz11_1 := blk_frozen BK562.out 1; have hfz11_2 := blk_frozen BK562.out 2; have hfz11_3 := blk_frozen BK562.out 3; have hfz11_4 := blk_frozen BK562.out 4; have hfz11_5 := blk_frozen BK562.out 5)); try go_wp2_with (first | ((with_reducible refine gate_dst (N := 4) rfl ?_); (try (refine gate_guard (by rfl) ?_; dsimp only)); refine box_event ?hg (N := 4) ?hd (cs := #[.int .i64 0, .string (⟨#[]⟩ : ByteArray), .int .i64 0, .int .i64 0, .int .i64 0, .int .i64 0]) (t := 113) ?hr ?_; (case hd => rfl); (case hg => rfl); (case hr => first | (go_simp; done) | (go_simp; rfl)); intro gb562 hg w10 hbox hb; have BK562 := Aside0.mk hbox; have GW562 := geA hg HB; have GE562 := geA hg HB; replace HB := bsA HB hb; clear hb hbox hg; have p5 : 0 ≤ (a1 : Int) := of_decide_eq_true (by first | (with_reducible assumption) | assumption); have q5 : a1 < (a0.size : Int) := of_decide_eq_true (by first | (with_reducible assumption) | assumption); have hx5 := bt_at a0 a1; replace p5 := eq_true p5; replace q5 := eq_true q5) | (go_at_call 82; (with_reducible refine (refrainref5_letter.calls (bt a0 a1) true _ A6.out).mono ?_); rintro e w' ⟨rfl, ⟨nd, rfl⟩⟩; (try first | exact ⟨rfl, _, World.drewN_drewN _ _ _⟩ | exact ⟨rfl, _, Eq.trans (World.drewN_drewN _ _ _) (congrArg (World.drewN _) (Nat.add_assoc _ _ _))⟩)) | (go_at_call 83; (with_reducible refine (refrainref5_run.calls k a0 a1 true t564 _ A8.out).mono ?_); rintro e w' ⟨rfl, ⟨nd, rfl⟩⟩; (try first | exact ⟨rfl, _, World.drewN_drewN _ _ _⟩ | exact ⟨rfl, _, Eq.trans (World.drewN_drewN _ _ _) (congrArg (World.drewN _) (Nat.add_assoc _ _ _))⟩); have hcz11_0 : w10.cell? ⟨gb562, 0, none⟩ = some (.int .i64 0) := (blk_cell BK562.out 0).trans rfl; have hcz11_1 : w10.cell? ⟨gb562, 1, none⟩ = some (.string (⟨#[]⟩ : ByteArray)) := (blk_cell BK562.out 1).trans rfl; have hcz11_2 : w10.cell? ⟨gb562, 2, none⟩ = some (.int .i64 0) := (blk_cell BK562.out 2).trans rfl; have hcz11_3 : w10.cell? ⟨gb562, 3, none⟩ = some (.int .i64 0) := (blk_cell BK562.out 3).trans rfl; have hcz11_4 : w10.cell? ⟨gb562, 4, none⟩ = some (.int .i64 0) := (blk_cell BK562.out 4).trans rfl; have hcz11_5 : w10.cell? ⟨gb562, 5, none⟩ = some (.int .i64 0) := (blk_cell BK562.out 5).trans rfl; have hfz11_0 := blk_frozen BK562.out 0; have hfz11_1 := blk_frozen BK562.out 1; have hfz11_2 := blk_frozen BK562.out 2; have hfz11_3 := blk_frozen BK562.out 3; have hfz11_4 := blk_frozen BK562.out 4; have hfz11_5 := blk_frozen BK562.out 5)))
          refine bodyPost_ret (results_cell_row rfl _ _ gb562 113 #[.int .i64 0, .string (⟨#[]⟩ : ByteArray), .int .i64 0, .int .i64 0, .int .i64 a1, .int .i64 51] (0, 0) _ rfl (by (with_reducible repeat (first | refine blk_drewN ?_ _ | refine blk_drew ?_ | refine blk_alloc ?_ _)); refine blk_put (cs := #[.int .i64 0, .string (⟨#[]⟩ : ByteArray), .int .i64 0, .int .i64 0, .int .i64 a1, .int .i64 0]) ?_ 5 _ rfl; (with_reducible repeat (first | refine blk_drewN ?_ _ | refine blk_drew ?_ | refine blk_alloc ?_ _)); refine blk_put (cs := #[.int .i64 0, .string (⟨#[]⟩ : ByteArray), .int .i64 0, .int .i64 0, .int .i64 0, .int .i64 0]) ?_ 4 _ rfl; (with_reducible repeat (first | refine blk_drewN ?_ _ | refine blk_drew ?_ | refine blk_alloc ?_ _)); refine blk_put (cs := #[.int .i64 0, .string (⟨#[]⟩ : ByteArray), .int .i64 0, .int .i64 0, .int .i64 0, .int .i64 0]) ?_ 3 _ rfl; (with_reducible repeat (first | refine blk_drewN ?_ _ | refine blk_drew ?_ | refine blk_alloc ?_ _)); refine blk_put (cs := #[.int .i64 0, .string (⟨#[]⟩ : ByteArray), .int .i64 0, .int .i64 0, .int .i64 0, .int .i64 0]) ?_ 2 _ rfl; (with_reducible repeat (first | refine blk_drewN ?_ _ | refine blk_drew ?_ | refine blk_alloc ?_ _)); refine blk_put (cs := #[.int .i64 0, .string (⟨#[]⟩ : ByteArray), .int .i64 0, .int .i64 0, .int .i64 0, .int .i64 0]) ?_ 1 _ rfl; (with_reducible repeat (first | refine blk_drewN ?_ _ | refine blk_drew ?_ | refine blk_alloc ?_ _)); refine blk_put (cs := #[.int .i64 0, .string (⟨#[]⟩ : ByteArray), .int .i64 0, .int .i64 0, .int .i64 0, .int .i64 0]) ?_ 0 _ rfl; (with_reducible repeat (first | refine blk_drewN ?_ _ | refine blk_drew ?_ | refine blk_alloc ?_ _)); exact BK562.out) Tryd.underlying113 rfl (by kernel_rfl)) rfl ?_
          exact ⟨by first | rfl | (simp [errW_none, errW_some] <;> rfl) | (simp [*, errW_none, errW_some] <;> rfl), hbT HB.out⟩
        · rw [if_neg c9] at H
          have c9b0 : decide (32 < (wrap64 (t564 - a1))) = false := decide_eq_false c9
          clear c9
          have c12b0 := eq_true (of_decide_eq_true (by first | (with_reducible assumption) | assumption) : 0 ≤ a1)
          by_cases c13 : a1 ≤ t564
          · rw [if_pos c13] at H
            have c13b0 := eq_true c13
            have c13b1 : decide (a1 ≤ t564) = true := decide_eq_true c13
            clear c13
            by_cases c14 : t564 ≤ (a0.size : Int)
            · rw [if_pos c14] at H
              have c14b0 := eq_true c14
              have c14b1 : decide (t564 ≤ (a0.size : Int)) = true := decide_eq_true c14
              clear c14
              simp only [Option.some.injEq, Prod.mk.injEq] at H
              obtain ⟨rfl, rfl, rfl, rfl, rfl, rfl⟩ := H
              go_enter Tryd.func68, Tryd.ntmps68
              go_wp2_with (first | ((with_reducible refine gate_dst (N := 4) rfl ?_); (try (refine gate_guard (by rfl) ?_; dsimp only)); refine box_event ?hg (N := 4) ?hd (cs := #[.int .i64 0, .string (⟨#[]⟩ : ByteArray), .int .i64 0, .int .i64 0, .int .i64 0, .int .i64 0]) (t := 113) ?hr ?_; (case hd => rfl); (case hg => rfl); (case hr => first | (go_simp; done) | (go_simp; rfl)); intro gb562 hg w15 hbox hb; have BK562 := Aside0.mk hbox; have GW562 := geA hg HB; have GE562 := geA hg HB; replace HB := bsA HB hb; clear hb hbox hg; have p5 : 0 ≤ (a1 : Int) := of_decide_eq_true (by first | (with_reducible assumption) | assumption); have q5 : a1 < (a0.size : Int) := of_decide_eq_true (by first | (with_reducible assumption) | assumption); have hx5 := bt_at a0 a1; replace p5 := eq_true p5; replace q5 := eq_true q5) | (go_at_call 82; (with_reducible refine (refrainref5_letter.calls (bt a0 a1) true _ A6.out).mono ?_); rintro e w' ⟨rfl, ⟨nd, rfl⟩⟩; (try first | exact ⟨rfl, _, World.drewN_drewN _ _ _⟩ | exact ⟨rfl, _, Eq.trans (World.drewN_drewN _ _ _) (congrArg (World.drewN _) (Nat.add_assoc _ _ _))⟩)) | (go_at_call 83; (with_reducible refine (refrainref5_run.calls k a0 a1 true t564 _ A8.out).mono ?_); rintro e w' ⟨rfl, ⟨nd, rfl⟩⟩; (try first | exact ⟨rfl, _, World.drewN_drewN _ _ _⟩ | exact ⟨rfl, _, Eq.trans (World.drewN_drewN _ _ _) (congrArg (World.drewN _) (Nat.add_assoc _ _ _))⟩); have hcz16_0 : w15.cell? ⟨gb562, 0, none⟩ = some (.int .i64 0) := (blk_cell BK562.out 0).trans rfl; have hcz16_1 : w15.cell? ⟨gb562, 1, none⟩ = some (.string (⟨#[]⟩ : ByteArray)) := (blk_cell BK562.out 1).trans rfl; have hcz16_2 : w15.cell? ⟨gb562, 2, none⟩ = some (.int .i64 0) := (blk_cell BK562.out 2).trans rfl; have hcz16_3 : w15.cell? ⟨gb562, 3, none⟩ = some (.int .i64 0) := (blk_cell BK562.out 3).trans rfl; have hcz16_4 : w15.cell? ⟨gb562, 4, none⟩ = some (.int .i64 0) := (blk_cell BK562.out 4).trans rfl; have hcz16_5 : w15.cell? ⟨gb562, 5, none⟩ = some (.int .i64 0) := (blk_cell BK562.out 5).trans rfl; have hfz16_0 := blk_frozen BK562.out 0; have hfz16_1 := blk_frozen BK562.out 1; have hfz16_2 := blk_frozen BK562.out 2; have hfz16_3 := blk_frozen BK562.out 3; have hfz16_4 := blk_frozen BK562.out 4; have hfz16_5 := blk_frozen BK562.out 5))
              repeat (go_quiet (first | ((with_reducible refine gate_dst (N := 4) rfl ?_); (try (refine gate_guard (by rfl) ?_; dsimp only)); refine box_event ?hg (N := 4) ?hd (cs := #[.int .i64 0, .string (⟨#[]⟩ : ByteArray), .int .i64 0, .int .i64 0, .int .i64 0, .int .i64 0]) (t := 113) ?hr ?_; (case hd => rfl); (case hg => rfl); (case hr => first | (go_simp; done) | (go_simp; rfl)); intro gb562 hg w15 hbox hb; have BK562 := Aside0.mk hbox; have GW562 := geA hg HB; have GE562 := geA hg HB; replace HB := bsA HB hb; clear hb hbox hg; have p5 : 0 ≤ (a1 : Int) := of_decide_eq_true (by first | (with_reducible assumption) | assumption); have q5 : a1 < (a0.size : Int) := of_decide_eq_true (by first | (with_reducible assumption) | assumption); have hx5 := bt_at a0 a1; replace p5 := eq_true p5; replace q5 := eq_true q5) | (go_at_call 82; (with_reducible refine (refrainref5_letter.calls (bt a0 a1) true _ A6.out).mono ?_); rintro e w' ⟨rfl, ⟨nd, rfl⟩⟩; (try first | exact ⟨rfl, _, World.drewN_drewN _ _ _⟩ | exact ⟨rfl, _, Eq.trans (World.drewN_drewN _ _ _) (congrArg (World.drewN _) (Nat.add_assoc _ _ _))⟩)) | (go_at_call 83; (with_reducible refine (refrainref5_run.calls k a0 a1 true t564 _ A8.out).mono ?_); rintro e w' ⟨rfl, ⟨nd, rfl⟩⟩; (try first | exact ⟨rfl, _, World.drewN_drewN _ _ _⟩ | exact ⟨rfl, _, Eq.trans (World.drewN_drewN _ _ _) (congrArg (World.drewN _) (Nat.add_assoc _ _ _))⟩); have hcz16_0 : w15.cell? ⟨gb562, 0, none⟩ = some (.int .i64 0) := (blk_cell BK562.out 0).trans rfl; have hcz16_1 : w15.cell? ⟨gb562, 1, none⟩ = some (.string (⟨#[]⟩ : ByteArray)) := (blk_cell BK562.out 1).trans rfl; have hcz16_2 : w15.cell? ⟨gb562, 2, none⟩ = some (.int .i64 0) := (blk_cell BK562.out 2).trans rfl; have hcz16_3 : w15.cell? ⟨gb562, 3, none⟩ = some (.int .i64 0) := (blk_cell BK562.out 3).trans rfl; have hcz16_4 : w15.cell? ⟨gb562, 4, none⟩ = some (.int .i64 0) := (blk_cell BK562.out 4).trans rfl; have hcz16_5 : w15.cell? ⟨gb562, 5, none⟩ = some (.int .i64 0) := (blk_cell BK562.out 5).trans rfl; have hfz16_0 := blk_frozen BK562.out 0; have hfz16_1 := blk_frozen BK562.out 1; have hfz16_2 := blk_frozen BK562.out 2; have hfz16_3 := blk_frozen BK562.out 3; have hfz16_4 := blk_frozen BK562.out 4; have hfz16_5 := blk_frozen BK562.out 5)); try go_wp2_with (first | ((with_reducible refine gate_dst (N := 4) rfl ?_); (try (refine gate_guard (by rfl) ?_; dsimp only)); refine box_event ?hg (N := 4) ?hd (cs := #[.int .i64 0, .string (⟨#[]⟩ : ByteArray), .int .i64 0, .int .i64 0, .int .i64 0, .int .i64 0]) (t := 113) ?hr ?_; (case hd => rfl); (case hg => rfl); (case hr => first | (go_simp; done) | (go_simp; rfl)); intro gb562 hg w15 hbox hb; have BK562 := Aside0.mk hbox; have GW562 := geA hg HB; have GE562 := geA hg HB; replace HB := bsA HB hb; clear hb hbox hg; have p5 : 0 ≤ (a1 : Int) := of_decide_eq_true (by first | (with_reducible assumption) | assumption); have q5 : a1 < (a0.size : Int) := of_decide_eq_true (by first | (with_reducible assumption) | assumption); have hx5 := bt_at a0 a1; replace p5 := eq_true p5; replace q5 := eq_true q5) | (go_at_call 82; (with_reducible refine (refrainref5_letter.calls (bt a0 a1) true _ A6.out).mono ?_); rintro e w' ⟨rfl, ⟨nd, rfl⟩⟩; (try first | exact ⟨rfl, _, World.drewN_drewN _ _ _⟩ | exact ⟨rfl, _, Eq.trans (World.drewN_drewN _ _ _) (congrArg (World.drewN _) (Nat.add_assoc _ _ _))⟩)) | (go_at_call 83; (with_reducible refine (refrainref5_run.calls k a0 a1 true t564 _ A8.out).mono ?_); rintro e w' ⟨rfl, ⟨nd, rfl⟩⟩; (try first | exact ⟨rfl, _, World.drewN_drewN _ _ _⟩ | exact ⟨rfl, _, Eq.trans (World.drewN_drewN _ _ _) (congrArg (World.drewN _) (Nat.add_assoc _ _ _))⟩); have hcz16_0 : w15.cell? ⟨gb562, 0, none⟩ = some (.int .i64 0) := (blk_cell BK562.out 0).trans rfl; have hcz16_1 : w15.cell? ⟨gb562, 1, none⟩ = some (.string (⟨#[]⟩ : ByteArray)) := (blk_cell BK562.out 1).trans rfl; have hcz16_2 : w15.cell? ⟨gb562, 2, none⟩ = some (.int .i64 0) := (blk_cell BK562.out 2).trans rfl; have hcz16_3 : w15.cell? ⟨gb562, 3, none⟩ = some (.int .i64 0) := (blk_cell BK562.out 3).trans rfl; have hcz16_4 : w15.cell? ⟨gb562, 4, none⟩ = some (.int .i64 0) := (blk_cell BK562.out 4).trans rfl; have hcz16_5 : w15.cell? ⟨gb562, 5, none⟩ = some (.int .i64 0) := (blk_cell BK562.out 5).trans rfl; have hfz16_0 := blk_frozen BK562.out 0; have hfz16_1 := blk_frozen BK562.out 1; have hfz16_2 := blk_frozen BK562.out 2; have hfz16_3 := blk_frozen BK562.out 3; have hfz16_4 := blk_frozen BK562.out 4; have hfz16_5 := blk_frozen BK562.out 5)))
              refine bodyPost_ret (results_cell_row rfl _ _ gb562 113 #[.int .i64 1, .string (a0.extract (a1 : Int).toNat (t564 : Int).toNat), .int .i64 a1, .int .i64 t564, .int .i64 0, .int .i64 0] (0, 0) _ rfl (by (with_reducible repeat (first | refine blk_drewN ?_ _ | refine blk_drew ?_ | refine blk_alloc ?_ _)); refine blk_put (cs := #[.int .i64 1, .string (a0.extract (a1 : Int).toNat (t564 : Int).toNat), .int .i64 a1, .int .i64 t564, .int .i64 0, .int .i64 0]) ?_ 5 _ rfl; (with_reducible repeat (first | refine blk_drewN ?_ _ | refine blk_drew ?_ | refine blk_alloc ?_ _)); refine blk_put (cs := #[.int .i64 1, .string (a0.extract (a1 : Int).toNat (t564 : Int).toNat), .int .i64 a1, .int .i64 t564, .int .i64 0, .int .i64 0]) ?_ 4 _ rfl; (with_reducible repeat (first | refine blk_drewN ?_ _ | refine blk_drew ?_ | refine blk_alloc ?_ _)); refine blk_put (cs := #[.int .i64 1, .string (a0.extract (a1 : Int).toNat (t564 : Int).toNat), .int .i64 a1, .int .i64 0, .int .i64 0, .int .i64 0]) ?_ 3 _ rfl; (with_reducible repeat (first | refine blk_drewN ?_ _ | refine blk_drew ?_ | refine blk_alloc ?_ _)); refine blk_put (cs := #[.int .i64 1, .string (a0.extract (a1 : Int).toNat (t564 : Int).toNat), .int .i64 0, .int .i64 0, .int .i64 0, .int .i64 0]) ?_ 2 _ rfl; (with_reducible repeat (first | refine blk_drewN ?_ _ | refine blk_drew ?_ | refine blk_alloc ?_ _)); refine blk_put (cs := #[.int .i64 1, .string (⟨#[]⟩ : ByteArray), .int .i64 0, .int .i64 0, .int .i64 0, .int .i64 0]) ?_ 1 _ rfl; (with_reducible repeat (first | refine blk_drewN ?_ _ | refine blk_drew ?_ | refine blk_alloc ?_ _)); refine blk_put (cs := #[.int .i64 0, .string (⟨#[]⟩ : ByteArray), .int .i64 0, .int .i64 0, .int .i64 0, .int .i64 0]) ?_ 0 _ rfl; (with_reducible repeat (first | refine blk_drewN ?_ _ | refine blk_drew ?_ | refine blk_alloc ?_ _)); exact BK562.out) Tryd.underlying113 rfl (by kernel_rfl)) rfl ?_
              exact ⟨by first | rfl | (simp [errW_none, errW_some] <;> rfl) | (simp [*, errW_none, errW_some] <;> rfl), hbT HB.out⟩
            · rw [if_neg c14] at H
              exact absurd H (by simp)
          · rw [if_neg c13] at H
            exact absurd H (by simp)
      · replace c7 := Bool.eq_false_iff.mpr c7
        subst c7
        have H1 : ((refrainref5_digit.f (bt a0 a1)).bind fun t565 => (if t565 = true then ((refrainref5_run.f k a0 a1 false).bind fun t566 => (if a1 ≤ t566 then (if t566 ≤ (a0.size : Int) then ((refrainref5_small.f k (a0.extract (a1 : Int).toNat (t566 : Int).toNat)).bind fun t567 => (if t567 = true then (if t566 < (a0.size : Int) then (if 0 ≤ t566 then ((refrainref5_letter.f (bt a0 t566)).bind fun t568 => (if t568 = true then (some (0, (⟨#[]⟩ : ByteArray), 0, 0, a1, 51)) else (some (2, a0.extract (a1 : Int).toNat (t566 : Int).toNat, a1, t566, 0, 0)))) else (none)) else (some (2, a0.extract (a1 : Int).toNat (t566 : Int).toNat, a1, t566, 0, 0))) else (some (0, (⟨#[]⟩ : ByteArray), 0, 0, a1, 51)))) else (none)) else (none))) else (if (bt a0 a1) = 34 then ((refrainref5_str.f k a0 a1).bind fun bt569 => (some (bt569.1, bt569.2.1, bt569.2.2.1, bt569.2.2.2.1, bt569.2.2.2.2.1, bt569.2.2.2.2.2))) else ((refrainref5_signs.f).bind fun t575 => (refrainref5_one.l0 k a0 a1 t575 0))))) = some (r1, r2, r3, r4, r5, r6) := by rw [if_neg (show ¬ (false = true) by decide)] at H; exact H
        clear H
        have H := H1
        clear H1
        replace H := Option.bind_eq_some_iff.mp H
        obtain ⟨t565, A170, H⟩ := H
        replace H : (if t565 = true then ((refrainref5_run.f k a0 a1 false).bind fun t566 => (if a1 ≤ t566 then (if t566 ≤ (a0.size : Int) then ((refrainref5_small.f k (a0.extract (a1 : Int).toNat (t566 : Int).toNat)).bind fun t567 => (if t567 = true then (if t566 < (a0.size : Int) then (if 0 ≤ t566 then ((refrainref5_letter.f (bt a0 t566)).bind fun t568 => (if t568 = true then (some (0, (⟨#[]⟩ : ByteArray), 0, 0, a1, 51)) else (some (2, a0.extract (a1 : Int).toNat (t566 : Int).toNat, a1, t566, 0, 0)))) else (none)) else (some (2, a0.extract (a1 : Int).toNat (t566 : Int).toNat, a1, t566, 0, 0))) else (some (0, (⟨#[]⟩ : ByteArray), 0, 0, a1, 51)))) else (none)) else (none))) else (if (bt a0 a1) = 34 then ((refrainref5_str.f k a0 a1).bind fun bt569 => (some (bt569.1, bt569.2.1, bt569.2.2.1, bt569.2.2.2.1, bt569.2.2.2.2.1, bt569.2.2.2.2.2))) else ((refrainref5_signs.f).bind fun t575 => (refrainref5_one.l0 k a0 a1 t575 0)))) = some (r1, r2, r3, r4, r5, r6) := H
        have A17 := Aside0.mk A170
        clear A170
        by_cases c18 : t565 = true
        · subst c18
          have H1 : ((refrainref5_run.f k a0 a1 false).bind fun t566 => (if a1 ≤ t566 then (if t566 ≤ (a0.size : Int) then ((refrainref5_small.f k (a0.extract (a1 : Int).toNat (t566 : Int).toNat)).bind fun t567 => (if t567 = true then (if t566 < (a0.size : Int) then (if 0 ≤ t566 then ((refrainref5_letter.f (bt a0 t566)).bind fun t568 => (if t568 = true then (some (0, (⟨#[]⟩ : ByteArray), 0, 0, a1, 51)) else (some (2, a0.extract (a1 : Int).toNat (t566 : Int).toNat, a1, t566, 0, 0)))) else (none)) else (some (2, a0.extract (a1 : Int).toNat (t566 : Int).toNat, a1, t566, 0, 0))) else (some (0, (⟨#[]⟩ : ByteArray), 0, 0, a1, 51)))) else (none)) else (none))) = some (r1, r2, r3, r4, r5, r6) := by rw [if_pos rfl] at H; exact H
          clear H
          have H := H1
          clear H1
          replace H := Option.bind_eq_some_iff.mp H
          obtain ⟨t566, A190, H⟩ := H
          replace H : (if a1 ≤ t566 then (if t566 ≤ (a0.size : Int) then ((refrainref5_small.f k (a0.extract (a1 : Int).toNat (t566 : Int).toNat)).bind fun t567 => (if t567 = true then (if t566 < (a0.size : Int) then (if 0 ≤ t566 then ((refrainref5_letter.f (bt a0 t566)).bind fun t568 => (if t568 = true then (some (0, (⟨#[]⟩ : ByteArray), 0, 0, a1, 51)) else (some (2, a0.extract (a1 : Int).toNat (t566 : Int).toNat, a1, t566, 0, 0)))) else (none)) else (some (2, a0.extract (a1 : Int).toNat (t566 : Int).toNat, a1, t566, 0, 0))) else (some (0, (⟨#[]⟩ : ByteArray), 0, 0, a1, 51)))) else (none)) else (none)) = some (r1, r2, r3, r4, r5, r6) := H
          have A19 := Aside0.mk A190
          clear A190
          have c20b0 := eq_true (of_decide_eq_true (by first | (with_reducible assumption) | assumption) : 0 ≤ a1)
          by_cases c21 : a1 ≤ t566
          · rw [if_pos c21] at H
            have c21b0 := eq_true c21
            have c21b1 : decide (a1 ≤ t566) = true := decide_eq_true c21
            clear c21
            by_cases c22 : t566 ≤ (a0.size : Int)
            · rw [if_pos c22] at H
              have c22b0 := eq_true c22
              have c22b1 : decide (t566 ≤ (a0.size : Int)) = true := decide_eq_true c22
              clear c22
              replace H := Option.bind_eq_some_iff.mp H
              obtain ⟨t567, A230, H⟩ := H
              replace H : (if t567 = true then (if t566 < (a0.size : Int) then (if 0 ≤ t566 then ((refrainref5_letter.f (bt a0 t566)).bind fun t568 => (if t568 = true then (some (0, (⟨#[]⟩ : ByteArray), 0, 0, a1, 51)) else (some (2, a0.extract (a1 : Int).toNat (t566 : Int).toNat, a1, t566, 0, 0)))) else (none)) else (some (2, a0.extract (a1 : Int).toNat (t566 : Int).toNat, a1, t566, 0, 0))) else (some (0, (⟨#[]⟩ : ByteArray), 0, 0, a1, 51))) = some (r1, r2, r3, r4, r5, r6) := H
              have A23 := Aside0.mk A230
              clear A230
              by_cases c24 : t567 = true
              · subst c24
                have H1 : (if t566 < (a0.size : Int) then (if 0 ≤ t566 then ((refrainref5_letter.f (bt a0 t566)).bind fun t568 => (if t568 = true then (some (0, (⟨#[]⟩ : ByteArray), 0, 0, a1, 51)) else (some (2, a0.extract (a1 : Int).toNat (t566 : Int).toNat, a1, t566, 0, 0)))) else (none)) else (some (2, a0.extract (a1 : Int).toNat (t566 : Int).toNat, a1, t566, 0, 0))) = some (r1, r2, r3, r4, r5, r6) := by rw [if_pos rfl] at H; exact H
                clear H
                have H := H1
                clear H1
                by_cases c25 : t566 < (a0.size : Int)
                · rw [if_pos c25] at H
                  have c25b0 : decide (t566 < (a0.size : Int)) = true := decide_eq_true c25
                  clear c25
                  by_cases c26 : 0 ≤ t566
                  · rw [if_pos c26] at H
                    have c26b0 : decide (0 ≤ t566) = true := decide_eq_true c26
                    clear c26
                    replace H := Option.bind_eq_some_iff.mp H
                    obtain ⟨t568, A280, H⟩ := H
                    replace H : (if t568 = true then (some (0, (⟨#[]⟩ : ByteArray), 0, 0, a1, 51)) else (some (2, a0.extract (a1 : Int).toNat (t566 : Int).toNat, a1, t566, 0, 0))) = some (r1, r2, r3, r4, r5, r6) := H
                    have A28 := Aside0.mk A280
                    clear A280
                    by_cases c29 : t568 = true
                    · subst c29
                      have H1 : (some (0, (⟨#[]⟩ : ByteArray), 0, 0, a1, 51)) = some (r1, r2, r3, r4, r5, r6) := by rw [if_pos rfl] at H; exact H
                      clear H
                      have H := H1
                      clear H1
                      simp only [Option.some.injEq, Prod.mk.injEq] at H
                      obtain ⟨rfl, rfl, rfl, rfl, rfl, rfl⟩ := H
                      go_enter Tryd.func68, Tryd.ntmps68
                      go_wp2_with (first | ((with_reducible refine gate_dst (N := 4) rfl ?_); (try (refine gate_guard (by rfl) ?_; dsimp only)); refine box_event ?hg (N := 4) ?hd (cs := #[.int .i64 0, .string (⟨#[]⟩ : ByteArray), .int .i64 0, .int .i64 0, .int .i64 0, .int .i64 0]) (t := 113) ?hr ?_; (case hd => rfl); (case hg => rfl); (case hr => first | (go_simp; done) | (go_simp; rfl)); intro gb562 hg w30 hbox hb; have BK562 := Aside0.mk hbox; have GW562 := geA hg HB; have GE562 := geA hg HB; replace HB := bsA HB hb; clear hb hbox hg; have p5 : 0 ≤ (a1 : Int) := of_decide_eq_true (by first | (with_reducible assumption) | assumption); have q5 : a1 < (a0.size : Int) := of_decide_eq_true (by first | (with_reducible assumption) | assumption); have hx5 := bt_at a0 a1; replace p5 := eq_true p5; replace q5 := eq_true q5) | (go_at_call 82; (with_reducible refine (refrainref5_letter.calls (bt a0 a1) false _ A6.out).mono ?_); rintro e w' ⟨rfl, ⟨nd, rfl⟩⟩; (try first | exact ⟨rfl, _, World.drewN_drewN _ _ _⟩ | exact ⟨rfl, _, Eq.trans (World.drewN_drewN _ _ _) (congrArg (World.drewN _) (Nat.add_assoc _ _ _))⟩)) | (go_at_call 84; (with_reducible refine (refrainref5_digit.calls (bt a0 a1) true _ A17.out).mono ?_); rintro e w' ⟨rfl, ⟨nd, rfl⟩⟩; (try first | exact ⟨rfl, _, World.drewN_drewN _ _ _⟩ | exact ⟨rfl, _, Eq.trans (World.drewN_drewN _ _ _) (congrArg (World.drewN _) (Nat.add_assoc _ _ _))⟩)) | (go_at_call 83; (with_reducible refine (refrainref5_run.calls k a0 a1 false t566 _ A19.out).mono ?_); rintro e w' ⟨rfl, ⟨nd, rfl⟩⟩; (try first | exact ⟨rfl, _, World.drewN_drewN _ _ _⟩ | exact ⟨rfl, _, Eq.trans (World.drewN_drewN _ _ _) (congrArg (World.drewN _) (Nat.add_assoc _ _ _))⟩)) | (go_at_call 85; (with_reducible refine (refrainref5_small.calls k (a0.extract (a1 : Int).toNat (t566 : Int).toNat) true _ A23.out).mono ?_); rintro e w' ⟨rfl, ⟨nd, rfl⟩⟩; (try first | exact ⟨rfl, _, World.drewN_drewN _ _ _⟩ | exact ⟨rfl, _, Eq.trans (World.drewN_drewN _ _ _) (congrArg (World.drewN _) (Nat.add_assoc _ _ _))⟩); have p27 : 0 ≤ (t566 : Int) := of_decide_eq_true (by first | (with_reducible assumption) | assumption); have q27 : t566 < (a0.size : Int) := of_decide_eq_true (by first | (with_reducible assumption) | assumption); have hx27 := bt_at a0 t566; replace p27 := eq_true p27; replace q27 := eq_true q27) | (go_at_call 82; (with_reducible refine (refrainref5_letter.calls (bt a0 t566) true _ A28.out).mono ?_); rintro e w' ⟨rfl, ⟨nd, rfl⟩⟩; (try first | exact ⟨rfl, _, World.drewN_drewN _ _ _⟩ | exact ⟨rfl, _, Eq.trans (World.drewN_drewN _ _ _) (congrArg (World.drewN _) (Nat.add_assoc _ _ _))⟩); have hcz31_0 : w30.cell? ⟨gb562, 0, none⟩ = some (.int .i64 0) := (blk_cell BK562.out 0).trans rfl; have hcz31_1 : w30.cell? ⟨gb562, 1, none⟩ = some (.string (⟨#[]⟩ : ByteArray)) := (blk_cell BK562.out 1).trans rfl; have hcz31_2 : w30.cell? ⟨gb562, 2, none⟩ = some (.int .i64 0) := (blk_cell BK562.out 2).trans rfl; have hcz31_3 : w30.cell? ⟨gb562, 3, none⟩ = some (.int .i64 0) := (blk_cell BK562.out 3).trans rfl; have hcz31_4 : w30.cell? ⟨gb562, 4, none⟩ = some (.int .i64 0) := (blk_cell BK562.out 4).trans rfl; have hcz31_5 : w30.cell? ⟨gb562, 5, none⟩ = some (.int .i64 0) := (blk_cell BK562.out 5).trans rfl; have hfz31_0 := blk_frozen BK562.out 0; have hfz31_1 := blk_frozen BK562.out 1; have hfz31_2 := blk_frozen BK562.out 2; have hfz31_3 := blk_frozen BK562.out 3; have hfz31_4 := blk_frozen BK562.out 4; have hfz31_5 := blk_frozen BK562.out 5))
                      repeat (go_quiet (first | ((with_reducible refine gate_dst (N := 4) rfl ?_); (try (refine gate_guard (by rfl) ?_; dsimp only)); refine box_event ?hg (N := 4) ?hd (cs := #[.int .i64 0, .string (⟨#[]⟩ : ByteArray), .int .i64 0, .int .i64 0, .int .i64 0, .int .i64 0]) (t := 113) ?hr ?_; (case hd => rfl); (case hg => rfl); (case hr => first | (go_simp; done) | (go_simp; rfl)); intro gb562 hg w30 hbox hb; have BK562 := Aside0.mk hbox; have GW562 := geA hg HB; have GE562 := geA hg HB; replace HB := bsA HB hb; clear hb hbox hg; have p5 : 0 ≤ (a1 : Int) := of_decide_eq_true (by first | (with_reducible assumption) | assumption); have q5 : a1 < (a0.size : Int) := of_decide_eq_true (by first | (with_reducible assumption) | assumption); have hx5 := bt_at a0 a1; replace p5 := eq_true p5; replace q5 := eq_true q5) | (go_at_call 82; (with_reducible refine (refrainref5_letter.calls (bt a0 a1) false _ A6.out).mono ?_); rintro e w' ⟨rfl, ⟨nd, rfl⟩⟩; (try first | exact ⟨rfl, _, World.drewN_drewN _ _ _⟩ | exact ⟨rfl, _, Eq.trans (World.drewN_drewN _ _ _) (congrArg (World.drewN _) (Nat.add_assoc _ _ _))⟩)) | (go_at_call 84; (with_reducible refine (refrainref5_digit.calls (bt a0 a1) true _ A17.out).mono ?_); rintro e w' ⟨rfl, ⟨nd, rfl⟩⟩; (try first | exact ⟨rfl, _, World.drewN_drewN _ _ _⟩ | exact ⟨rfl, _, Eq.trans (World.drewN_drewN _ _ _) (congrArg (World.drewN _) (Nat.add_assoc _ _ _))⟩)) | (go_at_call 83; (with_reducible refine (refrainref5_run.calls k a0 a1 false t566 _ A19.out).mono ?_); rintro e w' ⟨rfl, ⟨nd, rfl⟩⟩; (try first | exact ⟨rfl, _, World.drewN_drewN _ _ _⟩ | exact ⟨rfl, _, Eq.trans (World.drewN_drewN _ _ _) (congrArg (World.drewN _) (Nat.add_assoc _ _ _))⟩)) | (go_at_call 85; (with_reducible refine (refrainref5_small.calls k (a0.extract (a1 : Int).toNat (t566 : Int).toNat) true _ A23.out).mono ?_); rintro e w' ⟨rfl, ⟨nd, rfl⟩⟩; (try first | exact ⟨rfl, _, World.drewN_drewN _ _ _⟩ | exact ⟨rfl, _, Eq.trans (World.drewN_drewN _ _ _) (congrArg (World.drewN _) (Nat.add_assoc _ _ _))⟩); have p27 : 0 ≤ (t566 : Int) := of_decide_eq_true (by first | (with_reducible assumption) | assumption); have q27 : t566 < (a0.size : Int) := of_decide_eq_true (by first | (with_reducible assumption) | assumption); have hx27 := bt_at a0 t566; replace p27 := eq_true p27; replace q27 := eq_true q27) | (go_at_call 82; (with_reducible refine (refrainref5_letter.calls (bt a0 t566) true _ A28.out).mono ?_); rintro e w' ⟨rfl, ⟨nd, rfl⟩⟩; (try first | exact ⟨rfl, _, World.drewN_drewN _ _ _⟩ | exact ⟨rfl, _, Eq.trans (World.drewN_drewN _ _ _) (congrArg (World.drewN _) (Nat.add_assoc _ _ _))⟩); have hcz31_0 : w30.cell? ⟨gb562, 0, none⟩ = some (.int .i64 0) := (blk_cell BK562.out 0).trans rfl; have hcz31_1 : w30.cell? ⟨gb562, 1, none⟩ = some (.string (⟨#[]⟩ : ByteArray)) := (blk_cell BK562.out 1).trans rfl; have hcz31_2 : w30.cell? ⟨gb562, 2, none⟩ = some (.int .i64 0) := (blk_cell BK562.out 2).trans rfl; have hcz31_3 : w30.cell? ⟨gb562, 3, none⟩ = some (.int .i64 0) := (blk_cell BK562.out 3).trans rfl; have hcz31_4 : w30.cell? ⟨gb562, 4, none⟩ = some (.int .i64 0) := (blk_cell BK562.out 4).trans rfl; have hcz31_5 : w30.cell? ⟨gb562, 5, none⟩ = some (.int .i64 0) := (blk_cell BK562.out 5).trans rfl; have hfz31_0 := blk_frozen BK562.out 0; have hfz31_1 := blk_frozen BK562.out 1; have hfz31_2 := blk_frozen BK562.out 2; have hfz31_3 := blk_frozen BK562.out 3; have hfz31_4 := blk_frozen BK562.out 4; have hfz31_5 := blk_frozen BK562.out 5)); try go_wp2_with (first | ((with_reducible refine gate_dst (N := 4) rfl ?_); (try (refine gate_guard (by rfl) ?_; dsimp only)); refine box_event ?hg (N := 4) ?hd (cs := #[.int .i64 0, .string (⟨#[]⟩ : ByteArray), .int .i64 0, .int .i64 0, .int .i64 0, .int .i64 0]) (t := 113) ?hr ?_; (case hd => rfl); (case hg => rfl); (case hr => first | (go_simp; done) | (go_simp; rfl)); intro gb562 hg w30 hbox hb; have BK562 := Aside0.mk hbox; have GW562 := geA hg HB; have GE562 := geA hg HB; replace HB := bsA HB hb; clear hb hbox hg; have p5 : 0 ≤ (a1 : Int) := of_decide_eq_true (by first | (with_reducible assumption) | assumption); have q5 : a1 < (a0.size : Int) := of_decide_eq_true (by first | (with_reducible assumption) | assumption); have hx5 := bt_at a0 a1; replace p5 := eq_true p5; replace q5 := eq_true q5) | (go_at_call 82; (with_reducible refine (refrainref5_letter.calls (bt a0 a1) false _ A6.out).mono ?_); rintro e w' ⟨rfl, ⟨nd, rfl⟩⟩; (try first | exact ⟨rfl, _, World.drewN_drewN _ _ _⟩ | exact ⟨rfl, _, Eq.trans (World.drewN_drewN _ _ _) (congrArg (World.drewN _) (Nat.add_assoc _ _ _))⟩)) | (go_at_call 84; (with_reducible refine (refrainref5_digit.calls (bt a0 a1) true _ A17.out).mono ?_); rintro e w' ⟨rfl, ⟨nd, rfl⟩⟩; (try first | exact ⟨rfl, _, World.drewN_drewN _ _ _⟩ | exact ⟨rfl, _, Eq.trans (World.drewN_drewN _ _ _) (congrArg (World.drewN _) (Nat.add_assoc _ _ _))⟩)) | (go_at_call 83; (with_reducible refine (refrainref5_run.calls k a0 a1 false t566 _ A19.out).mono ?_); rintro e w' ⟨rfl, ⟨nd, rfl⟩⟩; (try first | exact ⟨rfl, _, World.drewN_drewN _ _ _⟩ | exact ⟨rfl, _, Eq.trans (World.drewN_drewN _ _ _) (congrArg (World.drewN _) (Nat.add_assoc _ _ _))⟩)) | (go_at_call 85; (with_reducible refine (refrainref5_small.calls k (a0.extract (a1 : Int).toNat (t566 : Int).toNat) true _ A23.out).mono ?_); rintro e w' ⟨rfl, ⟨nd, rfl⟩⟩; (try first | exact ⟨rfl, _, World.drewN_drewN _ _ _⟩ | exact ⟨rfl, _, Eq.trans (World.drewN_drewN _ _ _) (congrArg (World.drewN _) (Nat.add_assoc _ _ _))⟩); have p27 : 0 ≤ (t566 : Int) := of_decide_eq_true (by first | (with_reducible assumption) | assumption); have q27 : t566 < (a0.size : Int) := of_decide_eq_true (by first | (with_reducible assumption) | assumption); have hx27 := bt_at a0 t566; replace p27 := eq_true p27; replace q27 := eq_true q27) | (go_at_call 82; (with_reducible refine (refrainref5_letter.calls (bt a0 t566) true _ A28.out).mono ?_); rintro e w' ⟨rfl, ⟨nd, rfl⟩⟩; (try first | exact ⟨rfl, _, World.drewN_drewN _ _ _⟩ | exact ⟨rfl, _, Eq.trans (World.drewN_drewN _ _ _) (congrArg (World.drewN _) (Nat.add_assoc _ _ _))⟩); have hcz31_0 : w30.cell? ⟨gb562, 0, none⟩ = some (.int .i64 0) := (blk_cell BK562.out 0).trans rfl; have hcz31_1 : w30.cell? ⟨gb562, 1, none⟩ = some (.string (⟨#[]⟩ : ByteArray)) := (blk_cell BK562.out 1).trans rfl; have hcz31_2 : w30.cell? ⟨gb562, 2, none⟩ = some (.int .i64 0) := (blk_cell BK562.out 2).trans rfl; have hcz31_3 : w30.cell? ⟨gb562, 3, none⟩ = some (.int .i64 0) := (blk_cell BK562.out 3).trans rfl; have hcz31_4 : w30.cell? ⟨gb562, 4, none⟩ = some (.int .i64 0) := (blk_cell BK562.out 4).trans rfl; have hcz31_5 : w30.cell? ⟨gb562, 5, none⟩ = some (.int .i64 0) := (blk_cell BK562.out 5).trans rfl; have hfz31_0 := blk_frozen BK562.out 0; have hfz31_1 := blk_frozen BK562.out 1; have hfz31_2 := blk_frozen BK562.out 2; have hfz31_3 := blk_frozen BK562.out 3; have hfz31_4 := blk_frozen BK562.out 4; have hfz31_5 := blk_frozen BK562.out 5)))
                      refine bodyPost_ret (results_cell_row rfl _ _ gb562 113 #[.int .i64 0, .string (⟨#[]⟩ : ByteArray), .int .i64 0, .int .i64 0, .int .i64 a1, .int .i64 51] (0, 0) _ rfl (by (with_reducible repeat (first | refine blk_drewN ?_ _ | refine blk_drew ?_ | refine blk_alloc ?_ _)); refine blk_put (cs := #[.int .i64 0, .string (⟨#[]⟩ : ByteArray), .int .i64 0, .int .i64 0, .int .i64 a1, .int .i64 0]) ?_ 5 _ rfl; (with_reducible repeat (first | refine blk_drewN ?_ _ | refine blk_drew ?_ | refine blk_alloc ?_ _)); refine blk_put (cs := #[.int .i64 0, .string (⟨#[]⟩ : ByteArray), .int .i64 0, .int .i64 0, .int .i64 0, .int .i64 0]) ?_ 4 _ rfl; (with_reducible repeat (first | refine blk_drewN ?_ _ | refine blk_drew ?_ | refine blk_alloc ?_ _)); refine blk_put (cs := #[.int .i64 0, .string (⟨#[]⟩ : ByteArray), .int .i64 0, .int .i64 0, .int .i64 0, .int .i64 0]) ?_ 3 _ rfl; (with_reducible repeat (first | refine blk_drewN ?_ _ | refine blk_drew ?_ | refine blk_alloc ?_ _)); refine blk_put (cs := #[.int .i64 0, .string (⟨#[]⟩ : ByteArray), .int .i64 0, .int .i64 0, .int .i64 0, .int .i64 0]) ?_ 2 _ rfl; (with_reducible repeat (first | refine blk_drewN ?_ _ | refine blk_drew ?_ | refine blk_alloc ?_ _)); refine blk_put (cs := #[.int .i64 0, .string (⟨#[]⟩ : ByteArray), .int .i64 0, .int .i64 0, .int .i64 0, .int .i64 0]) ?_ 1 _ rfl; (with_reducible repeat (first | refine blk_drewN ?_ _ | refine blk_drew ?_ | refine blk_alloc ?_ _)); refine blk_put (cs := #[.int .i64 0, .string (⟨#[]⟩ : ByteArray), .int .i64 0, .int .i64 0, .int .i64 0, .int .i64 0]) ?_ 0 _ rfl; (with_reducible repeat (first | refine blk_drewN ?_ _ | refine blk_drew ?_ | refine blk_alloc ?_ _)); exact BK562.out) Tryd.underlying113 rfl (by kernel_rfl)) rfl ?_
                      exact ⟨by first | rfl | (simp [errW_none, errW_some] <;> rfl) | (simp [*, errW_none, errW_some] <;> rfl), hbT HB.out⟩
                    · replace c29 := Bool.eq_false_iff.mpr c29
                      subst c29
                      have H1 : (some (2, a0.extract (a1 : Int).toNat (t566 : Int).toNat, a1, t566, 0, 0)) = some (r1, r2, r3, r4, r5, r6) := by rw [if_neg (show ¬ (false = true) by decide)] at H; exact H
                      clear H
                      have H := H1
                      clear H1
                      have c32b0 := eq_true (of_decide_eq_true (by first | (with_reducible assumption) | assumption) : 0 ≤ a1)
                      have c33b0 := eq_true (of_decide_eq_true (by first | (with_reducible assumption) | assumption) : a1 ≤ t566)
                      have c34b0 := eq_true (of_decide_eq_true (by first | (with_reducible assumption) | assumption) : t566 ≤ (a0.size : Int))
                      simp only [Option.some.injEq, Prod.mk.injEq] at H
                      obtain ⟨rfl, rfl, rfl, rfl, rfl, rfl⟩ := H
                      go_enter Tryd.func68, Tryd.ntmps68
                      go_wp2_with (first | ((with_reducible refine gate_dst (N := 4) rfl ?_); (try (refine gate_guard (by rfl) ?_; dsimp only)); refine box_event ?hg (N := 4) ?hd (cs := #[.int .i64 0, .string (⟨#[]⟩ : ByteArray), .int .i64 0, .int .i64 0, .int .i64 0, .int .i64 0]) (t := 113) ?hr ?_; (case hd => rfl); (case hg => rfl); (case hr => first | (go_simp; done) | (go_simp; rfl)); intro gb562 hg w35 hbox hb; have BK562 := Aside0.mk hbox; have GW562 := geA hg HB; have GE562 := geA hg HB; replace HB := bsA HB hb; clear hb hbox hg; have p5 : 0 ≤ (a1 : Int) := of_decide_eq_true (by first | (with_reducible assumption) | assumption); have q5 : a1 < (a0.size : Int) := of_decide_eq_true (by first | (with_reducible assumption) | assumption); have hx5 := bt_at a0 a1; replace p5 := eq_true p5; replace q5 := eq_true q5) | (go_at_call 82; (with_reducible refine (refrainref5_letter.calls (bt a0 a1) false _ A6.out).mono ?_); rintro e w' ⟨rfl, ⟨nd, rfl⟩⟩; (try first | exact ⟨rfl, _, World.drewN_drewN _ _ _⟩ | exact ⟨rfl, _, Eq.trans (World.drewN_drewN _ _ _) (congrArg (World.drewN _) (Nat.add_assoc _ _ _))⟩)) | (go_at_call 84; (with_reducible refine (refrainref5_digit.calls (bt a0 a1) true _ A17.out).mono ?_); rintro e w' ⟨rfl, ⟨nd, rfl⟩⟩; (try first | exact ⟨rfl, _, World.drewN_drewN _ _ _⟩ | exact ⟨rfl, _, Eq.trans (World.drewN_drewN _ _ _) (congrArg (World.drewN _) (Nat.add_assoc _ _ _))⟩)) | (go_at_call 83; (with_reducible refine (refrainref5_run.calls k a0 a1 false t566 _ A19.out).mono ?_); rintro e w' ⟨rfl, ⟨nd, rfl⟩⟩; (try first | exact ⟨rfl, _, World.drewN_drewN _ _ _⟩ | exact ⟨rfl, _, Eq.trans (World.drewN_drewN _ _ _) (congrArg (World.drewN _) (Nat.add_assoc _ _ _))⟩)) | (go_at_call 85; (with_reducible refine (refrainref5_small.calls k (a0.extract (a1 : Int).toNat (t566 : Int).toNat) true _ A23.out).mono ?_); rintro e w' ⟨rfl, ⟨nd, rfl⟩⟩; (try first | exact ⟨rfl, _, World.drewN_drewN _ _ _⟩ | exact ⟨rfl, _, Eq.trans (World.drewN_drewN _ _ _) (congrArg (World.drewN _) (Nat.add_assoc _ _ _))⟩); have p27 : 0 ≤ (t566 : Int) := of_decide_eq_true (by first | (with_reducible assumption) | assumption); have q27 : t566 < (a0.size : Int) := of_decide_eq_true (by first | (with_reducible assumption) | assumption); have hx27 := bt_at a0 t566; replace p27 := eq_true p27; replace q27 := eq_true q27) | (go_at_call 82; (with_reducible refine (refrainref5_letter.calls (bt a0 t566) false _ A28.out).mono ?_); rintro e w' ⟨rfl, ⟨nd, rfl⟩⟩; (try first | exact ⟨rfl, _, World.drewN_drewN _ _ _⟩ | exact ⟨rfl, _, Eq.trans (World.drewN_drewN _ _ _) (congrArg (World.drewN _) (Nat.add_assoc _ _ _))⟩); have hcz36_0 : w35.cell? ⟨gb562, 0, none⟩ = some (.int .i64 0) := (blk_cell BK562.out 0).trans rfl; have hcz36_1 : w35.cell? ⟨gb562, 1, none⟩ = some (.string (⟨#[]⟩ : ByteArray)) := (blk_cell BK562.out 1).trans rfl; have hcz36_2 : w35.cell? ⟨gb562, 2, none⟩ = some (.int .i64 0) := (blk_cell BK562.out 2).trans rfl; have hcz36_3 : w35.cell? ⟨gb562, 3, none⟩ = some (.int .i64 0) := (blk_cell BK562.out 3).trans rfl; have hcz36_4 : w35.cell? ⟨gb562, 4, none⟩ = some (.int .i64 0) := (blk_cell BK562.out 4).trans rfl; have hcz36_5 : w35.cell? ⟨gb562, 5, none⟩ = some (.int .i64 0) := (blk_cell BK562.out 5).trans rfl; have hfz36_0 := blk_frozen BK562.out 0; have hfz36_1 := blk_frozen BK562.out 1; have hfz36_2 := blk_frozen BK562.out 2; have hfz36_3 := blk_frozen BK562.out 3; have hfz36_4 := blk_frozen BK562.out 4; have hfz36_5 := blk_frozen BK562.out 5))
                      repeat (go_quiet (first | ((with_reducible refine gate_dst (N := 4) rfl ?_); (try (refine gate_guard (by rfl) ?_; dsimp only)); refine box_event ?hg (N := 4) ?hd (cs := #[.int .i64 0, .string (⟨#[]⟩ : ByteArray), .int .i64 0, .int .i64 0, .int .i64 0, .int .i64 0]) (t := 113) ?hr ?_; (case hd => rfl); (case hg => rfl); (case hr => first | (go_simp; done) | (go_simp; rfl)); intro gb562 hg w35 hbox hb; have BK562 := Aside0.mk hbox; have GW562 := geA hg HB; have GE562 := geA hg HB; replace HB := bsA HB hb; clear hb hbox hg; have p5 : 0 ≤ (a1 : Int) := of_decide_eq_true (by first | (with_reducible assumption) | assumption); have q5 : a1 < (a0.size : Int) := of_decide_eq_true (by first | (with_reducible assumption) | assumption); have hx5 := bt_at a0 a1; replace p5 := eq_true p5; replace q5 := eq_true q5) | (go_at_call 82; (with_reducible refine (refrainref5_letter.calls (bt a0 a1) false _ A6.out).mono ?_); rintro e w' ⟨rfl, ⟨nd, rfl⟩⟩; (try first | exact ⟨rfl, _, World.drewN_drewN _ _ _⟩ | exact ⟨rfl, _, Eq.trans (World.drewN_drewN _ _ _) (congrArg (World.drewN _) (Nat.add_assoc _ _ _))⟩)) | (go_at_call 84; (with_reducible refine (refrainref5_digit.calls (bt a0 a1) true _ A17.out).mono ?_); rintro e w' ⟨rfl, ⟨nd, rfl⟩⟩; (try first | exact ⟨rfl, _, World.drewN_drewN _ _ _⟩ | exact ⟨rfl, _, Eq.trans (World.drewN_drewN _ _ _) (congrArg (World.drewN _) (Nat.add_assoc _ _ _))⟩)) | (go_at_call 83; (with_reducible refine (refrainref5_run.calls k a0 a1 false t566 _ A19.out).mono ?_); rintro e w' ⟨rfl, ⟨nd, rfl⟩⟩; (try first | exact ⟨rfl, _, World.drewN_drewN _ _ _⟩ | exact ⟨rfl, _, Eq.trans (World.drewN_drewN _ _ _) (congrArg (World.drewN _) (Nat.add_assoc _ _ _))⟩)) | (go_at_call 85; (with_reducible refine (refrainref5_small.calls k (a0.extract (a1 : Int).toNat (t566 : Int).toNat) true _ A23.out).mono ?_); rintro e w' ⟨rfl, ⟨nd, rfl⟩⟩; (try first | exact ⟨rfl, _, World.drewN_drewN _ _ _⟩ | exact ⟨rfl, _, Eq.trans (World.drewN_drewN _ _ _) (congrArg (World.drewN _) (Nat.add_assoc _ _ _))⟩); have p27 : 0 ≤ (t566 : Int) := of_decide_eq_true (by first | (with_reducible assumption) | assumption); have q27 : t566 < (a0.size : Int) := of_decide_eq_true (by first | (with_reducible assumption) | assumption); have hx27 := bt_at a0 t566; replace p27 := eq_true p27; replace q27 := eq_true q27) | (go_at_call 82; (with_reducible refine (refrainref5_letter.calls (bt a0 t566) false _ A28.out).mono ?_); rintro e w' ⟨rfl, ⟨nd, rfl⟩⟩; (try first | exact ⟨rfl, _, World.drewN_drewN _ _ _⟩ | exact ⟨rfl, _, Eq.trans (World.drewN_drewN _ _ _) (congrArg (World.drewN _) (Nat.add_assoc _ _ _))⟩); have hcz36_0 : w35.cell? ⟨gb562, 0, none⟩ = some (.int .i64 0) := (blk_cell BK562.out 0).trans rfl; have hcz36_1 : w35.cell? ⟨gb562, 1, none⟩ = some (.string (⟨#[]⟩ : ByteArray)) := (blk_cell BK562.out 1).trans rfl; have hcz36_2 : w35.cell? ⟨gb562, 2, none⟩ = some (.int .i64 0) := (blk_cell BK562.out 2).trans rfl; have hcz36_3 : w35.cell? ⟨gb562, 3, none⟩ = some (.int .i64 0) := (blk_cell BK562.out 3).trans rfl; have hcz36_4 : w35.cell? ⟨gb562, 4, none⟩ = some (.int .i64 0) := (blk_cell BK562.out 4).trans rfl; have hcz36_5 : w35.cell? ⟨gb562, 5, none⟩ = some (.int .i64 0) := (blk_cell BK562.out 5).trans rfl; have hfz36_0 := blk_frozen BK562.out 0; have hfz36_1 := blk_frozen BK562.out 1; have hfz36_2 := blk_frozen BK562.out 2; have hfz36_3 := blk_frozen BK562.out 3; have hfz36_4 := blk_frozen BK562.out 4; have hfz36_5 := blk_frozen BK562.out 5)); try go_wp2_with (first | ((with_reducible refine gate_dst (N := 4) rfl ?_); (try (refine gate_guard (by rfl) ?_; dsimp only)); refine box_event ?hg (N := 4) ?hd (cs := #[.int .i64 0, .string (⟨#[]⟩ : ByteArray), .int .i64 0, .int .i64 0, .int .i64 0, .int .i64 0]) (t := 113) ?hr ?_; (case hd => rfl); (case hg => rfl); (case hr => first | (go_simp; done) | (go_simp; rfl)); intro gb562 hg w35 hbox hb; have BK562 := Aside0.mk hbox; have GW562 := geA hg HB; have GE562 := geA hg HB; replace HB := bsA HB hb; clear hb hbox hg; have p5 : 0 ≤ (a1 : Int) := of_decide_eq_true (by first | (with_reducible assumption) | assumption); have q5 : a1 < (a0.size : Int) := of_decide_eq_true (by first | (with_reducible assumption) | assumption); have hx5 := bt_at a0 a1; replace p5 := eq_true p5; replace q5 := eq_true q5) | (go_at_call 82; (with_reducible refine (refrainref5_letter.calls (bt a0 a1) false _ A6.out).mono ?_); rintro e w' ⟨rfl, ⟨nd, rfl⟩⟩; (try first | exact ⟨rfl, _, World.drewN_drewN _ _ _⟩ | exact ⟨rfl, _, Eq.trans (World.drewN_drewN _ _ _) (congrArg (World.drewN _) (Nat.add_assoc _ _ _))⟩)) | (go_at_call 84; (with_reducible refine (refrainref5_digit.calls (bt a0 a1) true _ A17.out).mono ?_); rintro e w' ⟨rfl, ⟨nd, rfl⟩⟩; (try first | exact ⟨rfl, _, World.drewN_drewN _ _ _⟩ | exact ⟨rfl, _, Eq.trans (World.drewN_drewN _ _ _) (congrArg (World.drewN _) (Nat.add_assoc _ _ _))⟩)) | (go_at_call 83; (with_reducible refine (refrainref5_run.calls k a0 a1 false t566 _ A19.out).mono ?_); rintro e w' ⟨rfl, ⟨nd, rfl⟩⟩; (try first | exact ⟨rfl, _, World.drewN_drewN _ _ _⟩ | exact ⟨rfl, _, Eq.trans (World.drewN_drewN _ _ _) (congrArg (World.drewN _) (Nat.add_assoc _ _ _))⟩)) | (go_at_call 85; (with_reducible refine (refrainref5_small.calls k (a0.extract (a1 : Int).toNat (t566 : Int).toNat) true _ A23.out).mono ?_); rintro e w' ⟨rfl, ⟨nd, rfl⟩⟩; (try first | exact ⟨rfl, _, World.drewN_drewN _ _ _⟩ | exact ⟨rfl, _, Eq.trans (World.drewN_drewN _ _ _) (congrArg (World.drewN _) (Nat.add_assoc _ _ _))⟩); have p27 : 0 ≤ (t566 : Int) := of_decide_eq_true (by first | (with_reducible assumption) | assumption); have q27 : t566 < (a0.size : Int) := of_decide_eq_true (by first | (with_reducible assumption) | assumption); have hx27 := bt_at a0 t566; replace p27 := eq_true p27; replace q27 := eq_true q27) | (go_at_call 82; (with_reducible refine (refrainref5_letter.calls (bt a0 t566) false _ A28.out).mono ?_); rintro e w' ⟨rfl, ⟨nd, rfl⟩⟩; (try first | exact ⟨rfl, _, World.drewN_drewN _ _ _⟩ | exact ⟨rfl, _, Eq.trans (World.drewN_drewN _ _ _) (congrArg (World.drewN _) (Nat.add_assoc _ _ _))⟩); have hcz36_0 : w35.cell? ⟨gb562, 0, none⟩ = some (.int .i64 0) := (blk_cell BK562.out 0).trans rfl; have hcz36_1 : w35.cell? ⟨gb562, 1, none⟩ = some (.string (⟨#[]⟩ : ByteArray)) := (blk_cell BK562.out 1).trans rfl; have hcz36_2 : w35.cell? ⟨gb562, 2, none⟩ = some (.int .i64 0) := (blk_cell BK562.out 2).trans rfl; have hcz36_3 : w35.cell? ⟨gb562, 3, none⟩ = some (.int .i64 0) := (blk_cell BK562.out 3).trans rfl; have hcz36_4 : w35.cell? ⟨gb562, 4, none⟩ = some (.int .i64 0) := (blk_cell BK562.out 4).trans rfl; have hcz36_5 : w35.cell? ⟨gb562, 5, none⟩ = some (.int .i64 0) := (blk_cell BK562.out 5).trans rfl; have hfz36_0 := blk_frozen BK562.out 0; have hfz36_1 := blk_frozen BK562.out 1; have hfz36_2 := blk_frozen BK562.out 2; have hfz36_3 := blk_frozen BK562.out 3; have hfz36_4 := blk_frozen BK562.out 4; have hfz36_5 := blk_frozen BK562.out 5)))
                      refine bodyPost_ret (results_cell_row rfl _ _ gb562 113 #[.int .i64 2, .string (a0.extract (a1 : Int).toNat (t566 : Int).toNat), .int .i64 a1, .int .i64 t566, .int .i64 0, .int .i64 0] (0, 0) _ rfl (by (with_reducible repeat (first | refine blk_drewN ?_ _ | refine blk_drew ?_ | refine blk_alloc ?_ _)); refine blk_put (cs := #[.int .i64 2, .string (a0.extract (a1 : Int).toNat (t566 : Int).toNat), .int .i64 a1, .int .i64 t566, .int .i64 0, .int .i64 0]) ?_ 5 _ rfl; (with_reducible repeat (first | refine blk_drewN ?_ _ | refine blk_drew ?_ | refine blk_alloc ?_ _)); refine blk_put (cs := #[.int .i64 2, .string (a0.extract (a1 : Int).toNat (t566 : Int).toNat), .int .i64 a1, .int .i64 t566, .int .i64 0, .int .i64 0]) ?_ 4 _ rfl; (with_reducible repeat (first | refine blk_drewN ?_ _ | refine blk_drew ?_ | refine blk_alloc ?_ _)); refine blk_put (cs := #[.int .i64 2, .string (a0.extract (a1 : Int).toNat (t566 : Int).toNat), .int .i64 a1, .int .i64 0, .int .i64 0, .int .i64 0]) ?_ 3 _ rfl; (with_reducible repeat (first | refine blk_drewN ?_ _ | refine blk_drew ?_ | refine blk_alloc ?_ _)); refine blk_put (cs := #[.int .i64 2, .string (a0.extract (a1 : Int).toNat (t566 : Int).toNat), .int .i64 0, .int .i64 0, .int .i64 0, .int .i64 0]) ?_ 2 _ rfl; (with_reducible repeat (first | refine blk_drewN ?_ _ | refine blk_drew ?_ | refine blk_alloc ?_ _)); refine blk_put (cs := #[.int .i64 2, .string (⟨#[]⟩ : ByteArray), .int .i64 0, .int .i64 0, .int .i64 0, .int .i64 0]) ?_ 1 _ rfl; (with_reducible repeat (first | refine blk_drewN ?_ _ | refine blk_drew ?_ | refine blk_alloc ?_ _)); refine blk_put (cs := #[.int .i64 0, .string (⟨#[]⟩ : ByteArray), .int .i64 0, .int .i64 0, .int .i64 0, .int .i64 0]) ?_ 0 _ rfl; (with_reducible repeat (first | refine blk_drewN ?_ _ | refine blk_drew ?_ | refine blk_alloc ?_ _)); exact BK562.out) Tryd.underlying113 rfl (by kernel_rfl)) rfl ?_
                      exact ⟨by first | rfl | (simp [errW_none, errW_some] <;> rfl) | (simp [*, errW_none, errW_some] <;> rfl), hbT HB.out⟩
                  · rw [if_neg c26] at H
                    exact absurd H (by simp)
                · rw [if_neg c25] at H
                  have c25b0 : decide (t566 < (a0.size : Int)) = false := decide_eq_false c25
                  clear c25
                  have c37b0 := eq_true (of_decide_eq_true (by first | (with_reducible assumption) | assumption) : 0 ≤ a1)
                  have c38b0 := eq_true (of_decide_eq_true (by first | (with_reducible assumption) | assumption) : a1 ≤ t566)
                  have c39b0 := eq_true (of_decide_eq_true (by first | (with_reducible assumption) | assumption) : t566 ≤ (a0.size : Int))
                  simp only [Option.some.injEq, Prod.mk.injEq] at H
                  obtain ⟨rfl, rfl, rfl, rfl, rfl, rfl⟩ := H
                  go_enter Tryd.func68, Tryd.ntmps68
                  go_wp2_with (first | ((with_reducible refine gate_dst (N := 4) rfl ?_); (try (refine gate_guard (by rfl) ?_; dsimp only)); refine box_event ?hg (N := 4) ?hd (cs := #[.int .i64 0, .string (⟨#[]⟩ : ByteArray), .int .i64 0, .int .i64 0, .int .i64 0, .int .i64 0]) (t := 113) ?hr ?_; (case hd => rfl); (case hg => rfl); (case hr => first | (go_simp; done) | (go_simp; rfl)); intro gb562 hg w40 hbox hb; have BK562 := Aside0.mk hbox; have GW562 := geA hg HB; have GE562 := geA hg HB; replace HB := bsA HB hb; clear hb hbox hg; have p5 : 0 ≤ (a1 : Int) := of_decide_eq_true (by first | (with_reducible assumption) | assumption); have q5 : a1 < (a0.size : Int) := of_decide_eq_true (by first | (with_reducible assumption) | assumption); have hx5 := bt_at a0 a1; replace p5 := eq_true p5; replace q5 := eq_true q5) | (go_at_call 82; (with_reducible refine (refrainref5_letter.calls (bt a0 a1) false _ A6.out).mono ?_); rintro e w' ⟨rfl, ⟨nd, rfl⟩⟩; (try first | exact ⟨rfl, _, World.drewN_drewN _ _ _⟩ | exact ⟨rfl, _, Eq.trans (World.drewN_drewN _ _ _) (congrArg (World.drewN _) (Nat.add_assoc _ _ _))⟩)) | (go_at_call 84; (with_reducible refine (refrainref5_digit.calls (bt a0 a1) true _ A17.out).mono ?_); rintro e w' ⟨rfl, ⟨nd, rfl⟩⟩; (try first | exact ⟨rfl, _, World.drewN_drewN _ _ _⟩ | exact ⟨rfl, _, Eq.trans (World.drewN_drewN _ _ _) (congrArg (World.drewN _) (Nat.add_assoc _ _ _))⟩)) | (go_at_call 83; (with_reducible refine (refrainref5_run.calls k a0 a1 false t566 _ A19.out).mono ?_); rintro e w' ⟨rfl, ⟨nd, rfl⟩⟩; (try first | exact ⟨rfl, _, World.drewN_drewN _ _ _⟩ | exact ⟨rfl, _, Eq.trans (World.drewN_drewN _ _ _) (congrArg (World.drewN _) (Nat.add_assoc _ _ _))⟩)) | (go_at_call 85; (with_reducible refine (refrainref5_small.calls k (a0.extract (a1 : Int).toNat (t566 : Int).toNat) true _ A23.out).mono ?_); rintro e w' ⟨rfl, ⟨nd, rfl⟩⟩; (try first | exact ⟨rfl, _, World.drewN_drewN _ _ _⟩ | exact ⟨rfl, _, Eq.trans (World.drewN_drewN _ _ _) (congrArg (World.drewN _) (Nat.add_assoc _ _ _))⟩); have hcz41_0 : w40.cell? ⟨gb562, 0, none⟩ = some (.int .i64 0) := (blk_cell BK562.out 0).trans rfl; have hcz41_1 : w40.cell? ⟨gb562, 1, none⟩ = some (.string (⟨#[]⟩ : ByteArray)) := (blk_cell BK562.out 1).trans rfl; have hcz41_2 : w40.cell? ⟨gb562, 2, none⟩ = some (.int .i64 0) := (blk_cell BK562.out 2).trans rfl; have hcz41_3 : w40.cell? ⟨gb562, 3, none⟩ = some (.int .i64 0) := (blk_cell BK562.out 3).trans rfl; have hcz41_4 : w40.cell? ⟨gb562, 4, none⟩ = some (.int .i64 0) := (blk_cell BK562.out 4).trans rfl; have hcz41_5 : w40.cell? ⟨gb562, 5, none⟩ = some (.int .i64 0) := (blk_cell BK562.out 5).trans rfl; have hfz41_0 := blk_frozen BK562.out 0; have hfz41_1 := blk_frozen BK562.out 1; have hfz41_2 := blk_frozen BK562.out 2; have hfz41_3 := blk_frozen BK562.out 3; have hfz41_4 := blk_frozen BK562.out 4; have hfz41_5 := blk_frozen BK562.out 5))
                  repeat (go_quiet (first | ((with_reducible refine gate_dst (N := 4) rfl ?_); (try (refine gate_guard (by rfl) ?_; dsimp only)); refine box_event ?hg (N := 4) ?hd (cs := #[.int .i64 0, .string (⟨#[]⟩ : ByteArray), .int .i64 0, .int .i64 0, .int .i64 0, .int .i64 0]) (t := 113) ?hr ?_; (case hd => rfl); (case hg => rfl); (case hr => first | (go_simp; done) | (go_simp; rfl)); intro gb562 hg w40 hbox hb; have BK562 := Aside0.mk hbox; have GW562 := geA hg HB; have GE562 := geA hg HB; replace HB := bsA HB hb; clear hb hbox hg; have p5 : 0 ≤ (a1 : Int) := of_decide_eq_true (by first | (with_reducible assumption) | assumption); have q5 : a1 < (a0.size : Int) := of_decide_eq_true (by first | (with_reducible assumption) | assumption); have hx5 := bt_at a0 a1; replace p5 := eq_true p5; replace q5 := eq_true q5) | (go_at_call 82; (with_reducible refine (refrainref5_letter.calls (bt a0 a1) false _ A6.out).mono ?_); rintro e w' ⟨rfl, ⟨nd, rfl⟩⟩; (try first | exact ⟨rfl, _, World.drewN_drewN _ _ _⟩ | exact ⟨rfl, _, Eq.trans (World.drewN_drewN _ _ _) (congrArg (World.drewN _) (Nat.add_assoc _ _ _))⟩)) | (go_at_call 84; (with_reducible refine (refrainref5_digit.calls (bt a0 a1) true _ A17.out).mono ?_); rintro e w' ⟨rfl, ⟨nd, rfl⟩⟩; (try first | exact ⟨rfl, _, World.drewN_drewN _ _ _⟩ | exact ⟨rfl, _, Eq.trans (World.drewN_drewN _ _ _) (congrArg (World.drewN _) (Nat.add_assoc _ _ _))⟩)) | (go_at_call 83; (with_reducible refine (refrainref5_run.calls k a0 a1 false t566 _ A19.out).mono ?_); rintro e w' ⟨rfl, ⟨nd, rfl⟩⟩; (try first | exact ⟨rfl, _, World.drewN_drewN _ _ _⟩ | exact ⟨rfl, _, Eq.trans (World.drewN_drewN _ _ _) (congrArg (World.drewN _) (Nat.add_assoc _ _ _))⟩)) | (go_at_call 85; (with_reducible refine (refrainref5_small.calls k (a0.extract (a1 : Int).toNat (t566 : Int).toNat) true _ A23.out).mono ?_); rintro e w' ⟨rfl, ⟨nd, rfl⟩⟩; (try first | exact ⟨rfl, _, World.drewN_drewN _ _ _⟩ | exact ⟨rfl, _, Eq.trans (World.drewN_drewN _ _ _) (congrArg (World.drewN _) (Nat.add_assoc _ _ _))⟩); have hcz41_0 : w40.cell? ⟨gb562, 0, none⟩ = some (.int .i64 0) := (blk_cell BK562.out 0).trans rfl; have hcz41_1 : w40.cell? ⟨gb562, 1, none⟩ = some (.string (⟨#[]⟩ : ByteArray)) := (blk_cell BK562.out 1).trans rfl; have hcz41_2 : w40.cell? ⟨gb562, 2, none⟩ = some (.int .i64 0) := (blk_cell BK562.out 2).trans rfl; have hcz41_3 : w40.cell? ⟨gb562, 3, none⟩ = some (.int .i64 0) := (blk_cell BK562.out 3).trans rfl; have hcz41_4 : w40.cell? ⟨gb562, 4, none⟩ = some (.int .i64 0) := (blk_cell BK562.out 4).trans rfl; have hcz41_5 : w40.cell? ⟨gb562, 5, none⟩ = some (.int .i64 0) := (blk_cell BK562.out 5).trans rfl; have hfz41_0 := blk_frozen BK562.out 0; have hfz41_1 := blk_frozen BK562.out 1; have hfz41_2 := blk_frozen BK562.out 2; have hfz41_3 := blk_frozen BK562.out 3; have hfz41_4 := blk_frozen BK562.out 4; have hfz41_5 := blk_frozen BK562.out 5)); try go_wp2_with (first | ((with_reducible refine gate_dst (N := 4) rfl ?_); (try (refine gate_guard (by rfl) ?_; dsimp only)); refine box_event ?hg (N := 4) ?hd (cs := #[.int .i64 0, .string (⟨#[]⟩ : ByteArray), .int .i64 0, .int .i64 0, .int .i64 0, .int .i64 0]) (t := 113) ?hr ?_; (case hd => rfl); (case hg => rfl); (case hr => first | (go_simp; done) | (go_simp; rfl)); intro gb562 hg w40 hbox hb; have BK562 := Aside0.mk hbox; have GW562 := geA hg HB; have GE562 := geA hg HB; replace HB := bsA HB hb; clear hb hbox hg; have p5 : 0 ≤ (a1 : Int) := of_decide_eq_true (by first | (with_reducible assumption) | assumption); have q5 : a1 < (a0.size : Int) := of_decide_eq_true (by first | (with_reducible assumption) | assumption); have hx5 := bt_at a0 a1; replace p5 := eq_true p5; replace q5 := eq_true q5) | (go_at_call 82; (with_reducible refine (refrainref5_letter.calls (bt a0 a1) false _ A6.out).mono ?_); rintro e w' ⟨rfl, ⟨nd, rfl⟩⟩; (try first | exact ⟨rfl, _, World.drewN_drewN _ _ _⟩ | exact ⟨rfl, _, Eq.trans (World.drewN_drewN _ _ _) (congrArg (World.drewN _) (Nat.add_assoc _ _ _))⟩)) | (go_at_call 84; (with_reducible refine (refrainref5_digit.calls (bt a0 a1) true _ A17.out).mono ?_); rintro e w' ⟨rfl, ⟨nd, rfl⟩⟩; (try first | exact ⟨rfl, _, World.drewN_drewN _ _ _⟩ | exact ⟨rfl, _, Eq.trans (World.drewN_drewN _ _ _) (congrArg (World.drewN _) (Nat.add_assoc _ _ _))⟩)) | (go_at_call 83; (with_reducible refine (refrainref5_run.calls k a0 a1 false t566 _ A19.out).mono ?_); rintro e w' ⟨rfl, ⟨nd, rfl⟩⟩; (try first | exact ⟨rfl, _, World.drewN_drewN _ _ _⟩ | exact ⟨rfl, _, Eq.trans (World.drewN_drewN _ _ _) (congrArg (World.drewN _) (Nat.add_assoc _ _ _))⟩)) | (go_at_call 85; (with_reducible refine (refrainref5_small.calls k (a0.extract (a1 : Int).toNat (t566 : Int).toNat) true _ A23.out).mono ?_); rintro e w' ⟨rfl, ⟨nd, rfl⟩⟩; (try first | exact ⟨rfl, _, World.drewN_drewN _ _ _⟩ | exact ⟨rfl, _, Eq.trans (World.drewN_drewN _ _ _) (congrArg (World.drewN _) (Nat.add_assoc _ _ _))⟩); have hcz41_0 : w40.cell? ⟨gb562, 0, none⟩ = some (.int .i64 0) := (blk_cell BK562.out 0).trans rfl; have hcz41_1 : w40.cell? ⟨gb562, 1, none⟩ = some (.string (⟨#[]⟩ : ByteArray)) := (blk_cell BK562.out 1).trans rfl; have hcz41_2 : w40.cell? ⟨gb562, 2, none⟩ = some (.int .i64 0) := (blk_cell BK562.out 2).trans rfl; have hcz41_3 : w40.cell? ⟨gb562, 3, none⟩ = some (.int .i64 0) := (blk_cell BK562.out 3).trans rfl; have hcz41_4 : w40.cell? ⟨gb562, 4, none⟩ = some (.int .i64 0) := (blk_cell BK562.out 4).trans rfl; have hcz41_5 : w40.cell? ⟨gb562, 5, none⟩ = some (.int .i64 0) := (blk_cell BK562.out 5).trans rfl; have hfz41_0 := blk_frozen BK562.out 0; have hfz41_1 := blk_frozen BK562.out 1; have hfz41_2 := blk_frozen BK562.out 2; have hfz41_3 := blk_frozen BK562.out 3; have hfz41_4 := blk_frozen BK562.out 4; have hfz41_5 := blk_frozen BK562.out 5)))
                  refine bodyPost_ret (results_cell_row rfl _ _ gb562 113 #[.int .i64 2, .string (a0.extract (a1 : Int).toNat (t566 : Int).toNat), .int .i64 a1, .int .i64 t566, .int .i64 0, .int .i64 0] (0, 0) _ rfl (by (with_reducible repeat (first | refine blk_drewN ?_ _ | refine blk_drew ?_ | refine blk_alloc ?_ _)); refine blk_put (cs := #[.int .i64 2, .string (a0.extract (a1 : Int).toNat (t566 : Int).toNat), .int .i64 a1, .int .i64 t566, .int .i64 0, .int .i64 0]) ?_ 5 _ rfl; (with_reducible repeat (first | refine blk_drewN ?_ _ | refine blk_drew ?_ | refine blk_alloc ?_ _)); refine blk_put (cs := #[.int .i64 2, .string (a0.extract (a1 : Int).toNat (t566 : Int).toNat), .int .i64 a1, .int .i64 t566, .int .i64 0, .int .i64 0]) ?_ 4 _ rfl; (with_reducible repeat (first | refine blk_drewN ?_ _ | refine blk_drew ?_ | refine blk_alloc ?_ _)); refine blk_put (cs := #[.int .i64 2, .string (a0.extract (a1 : Int).toNat (t566 : Int).toNat), .int .i64 a1, .int .i64 0, .int .i64 0, .int .i64 0]) ?_ 3 _ rfl; (with_reducible repeat (first | refine blk_drewN ?_ _ | refine blk_drew ?_ | refine blk_alloc ?_ _)); refine blk_put (cs := #[.int .i64 2, .string (a0.extract (a1 : Int).toNat (t566 : Int).toNat), .int .i64 0, .int .i64 0, .int .i64 0, .int .i64 0]) ?_ 2 _ rfl; (with_reducible repeat (first | refine blk_drewN ?_ _ | refine blk_drew ?_ | refine blk_alloc ?_ _)); refine blk_put (cs := #[.int .i64 2, .string (⟨#[]⟩ : ByteArray), .int .i64 0, .int .i64 0, .int .i64 0, .int .i64 0]) ?_ 1 _ rfl; (with_reducible repeat (first | refine blk_drewN ?_ _ | refine blk_drew ?_ | refine blk_alloc ?_ _)); refine blk_put (cs := #[.int .i64 0, .string (⟨#[]⟩ : ByteArray), .int .i64 0, .int .i64 0, .int .i64 0, .int .i64 0]) ?_ 0 _ rfl; (with_reducible repeat (first | refine blk_drewN ?_ _ | refine blk_drew ?_ | refine blk_alloc ?_ _)); exact BK562.out) Tryd.underlying113 rfl (by kernel_rfl)) rfl ?_
                  exact ⟨by first | rfl | (simp [errW_none, errW_some] <;> rfl) | (simp [*, errW_none, errW_some] <;> rfl), hbT HB.out⟩
              · replace c24 := Bool.eq_false_iff.mpr c24
                subst c24
                have H1 : (some (0, (⟨#[]⟩ : ByteArray), 0, 0, a1, 51)) = some (r1, r2, r3, r4, r5, r6) := by rw [if_neg (show ¬ (false = true) by decide)] at H; exact H
                clear H
                have H := H1
                clear H1
                simp only [Option.some.injEq, Prod.mk.injEq] at H
                obtain ⟨rfl, rfl, rfl, rfl, rfl, rfl⟩ := H
                go_enter Tryd.func68, Tryd.ntmps68
                go_wp2_with (first | ((with_reducible refine gate_dst (N := 4) rfl ?_); (try (refine gate_guard (by rfl) ?_; dsimp only)); refine box_event ?hg (N := 4) ?hd (cs := #[.int .i64 0, .string (⟨#[]⟩ : ByteArray), .int .i64 0, .int .i64 0, .int .i64 0, .int .i64 0]) (t := 113) ?hr ?_; (case hd => rfl); (case hg => rfl); (case hr => first | (go_simp; done) | (go_simp; rfl)); intro gb562 hg w42 hbox hb; have BK562 := Aside0.mk hbox; have GW562 := geA hg HB; have GE562 := geA hg HB; replace HB := bsA HB hb; clear hb hbox hg; have p5 : 0 ≤ (a1 : Int) := of_decide_eq_true (by first | (with_reducible assumption) | assumption); have q5 : a1 < (a0.size : Int) := of_decide_eq_true (by first | (with_reducible assumption) | assumption); have hx5 := bt_at a0 a1; replace p5 := eq_true p5; replace q5 := eq_true q5) | (go_at_call 82; (with_reducible refine (refrainref5_letter.calls (bt a0 a1) false _ A6.out).mono ?_); rintro e w' ⟨rfl, ⟨nd, rfl⟩⟩; (try first | exact ⟨rfl, _, World.drewN_drewN _ _ _⟩ | exact ⟨rfl, _, Eq.trans (World.drewN_drewN _ _ _) (congrArg (World.drewN _) (Nat.add_assoc _ _ _))⟩)) | (go_at_call 84; (with_reducible refine (refrainref5_digit.calls (bt a0 a1) true _ A17.out).mono ?_); rintro e w' ⟨rfl, ⟨nd, rfl⟩⟩; (try first | exact ⟨rfl, _, World.drewN_drewN _ _ _⟩ | exact ⟨rfl, _, Eq.trans (World.drewN_drewN _ _ _) (congrArg (World.drewN _) (Nat.add_assoc _ _ _))⟩)) | (go_at_call 83; (with_reducible refine (refrainref5_run.calls k a0 a1 false t566 _ A19.out).mono ?_); rintro e w' ⟨rfl, ⟨nd, rfl⟩⟩; (try first | exact ⟨rfl, _, World.drewN_drewN _ _ _⟩ | exact ⟨rfl, _, Eq.trans (World.drewN_drewN _ _ _) (congrArg (World.drewN _) (Nat.add_assoc _ _ _))⟩)) | (go_at_call 85; (with_reducible refine (refrainref5_small.calls k (a0.extract (a1 : Int).toNat (t566 : Int).toNat) false _ A23.out).mono ?_); rintro e w' ⟨rfl, ⟨nd, rfl⟩⟩; (try first | exact ⟨rfl, _, World.drewN_drewN _ _ _⟩ | exact ⟨rfl, _, Eq.trans (World.drewN_drewN _ _ _) (congrArg (World.drewN _) (Nat.add_assoc _ _ _))⟩); have hcz43_0 : w42.cell? ⟨gb562, 0, none⟩ = some (.int .i64 0) := (blk_cell BK562.out 0).trans rfl; have hcz43_1 : w42.cell? ⟨gb562, 1, none⟩ = some (.string (⟨#[]⟩ : ByteArray)) := (blk_cell BK562.out 1).trans rfl; have hcz43_2 : w42.cell? ⟨gb562, 2, none⟩ = some (.int .i64 0) := (blk_cell BK562.out 2).trans rfl; have hcz43_3 : w42.cell? ⟨gb562, 3, none⟩ = some (.int .i64 0) := (blk_cell BK562.out 3).trans rfl; have hcz43_4 : w42.cell? ⟨gb562, 4, none⟩ = some (.int .i64 0) := (blk_cell BK562.out 4).trans rfl; have hcz43_5 : w42.cell? ⟨gb562, 5, none⟩ = some (.int .i64 0) := (blk_cell BK562.out 5).trans rfl; have hfz43_0 := blk_frozen BK562.out 0; have hfz43_1 := blk_frozen BK562.out 1; have hfz43_2 := blk_frozen BK562.out 2; have hfz43_3 := blk_frozen BK562.out 3; have hfz43_4 := blk_frozen BK562.out 4; have hfz43_5 := blk_frozen BK562.out 5))
                repeat (go_quiet (first | ((with_reducible refine gate_dst (N := 4) rfl ?_); (try (refine gate_guard (by rfl) ?_; dsimp only)); refine box_event ?hg (N := 4) ?hd (cs := #[.int .i64 0, .string (⟨#[]⟩ : ByteArray), .int .i64 0, .int .i64 0, .int .i64 0, .int .i64 0]) (t := 113) ?hr ?_; (case hd => rfl); (case hg => rfl); (case hr => first | (go_simp; done) | (go_simp; rfl)); intro gb562 hg w42 hbox hb; have BK562 := Aside0.mk hbox; have GW562 := geA hg HB; have GE562 := geA hg HB; replace HB := bsA HB hb; clear hb hbox hg; have p5 : 0 ≤ (a1 : Int) := of_decide_eq_true (by first | (with_reducible assumption) | assumption); have q5 : a1 < (a0.size : Int) := of_decide_eq_true (by first | (with_reducible assumption) | assumption); have hx5 := bt_at a0 a1; replace p5 := eq_true p5; replace q5 := eq_true q5) | (go_at_call 82; (with_reducible refine (refrainref5_letter.calls (bt a0 a1) false _ A6.out).mono ?_); rintro e w' ⟨rfl, ⟨nd, rfl⟩⟩; (try first | exact ⟨rfl, _, World.drewN_drewN _ _ _⟩ | exact ⟨rfl, _, Eq.trans (World.drewN_drewN _ _ _) (congrArg (World.drewN _) (Nat.add_assoc _ _ _))⟩)) | (go_at_call 84; (with_reducible refine (refrainref5_digit.calls (bt a0 a1) true _ A17.out).mono ?_); rintro e w' ⟨rfl, ⟨nd, rfl⟩⟩; (try first | exact ⟨rfl, _, World.drewN_drewN _ _ _⟩ | exact ⟨rfl, _, Eq.trans (World.drewN_drewN _ _ _) (congrArg (World.drewN _) (Nat.add_assoc _ _ _))⟩)) | (go_at_call 83; (with_reducible refine (refrainref5_run.calls k a0 a1 false t566 _ A19.out).mono ?_); rintro e w' ⟨rfl, ⟨nd, rfl⟩⟩; (try first | exact ⟨rfl, _, World.drewN_drewN _ _ _⟩ | exact ⟨rfl, _, Eq.trans (World.drewN_drewN _ _ _) (congrArg (World.drewN _) (Nat.add_assoc _ _ _))⟩)) | (go_at_call 85; (with_reducible refine (refrainref5_small.calls k (a0.extract (a1 : Int).toNat (t566 : Int).toNat) false _ A23.out).mono ?_); rintro e w' ⟨rfl, ⟨nd, rfl⟩⟩; (try first | exact ⟨rfl, _, World.drewN_drewN _ _ _⟩ | exact ⟨rfl, _, Eq.trans (World.drewN_drewN _ _ _) (congrArg (World.drewN _) (Nat.add_assoc _ _ _))⟩); have hcz43_0 : w42.cell? ⟨gb562, 0, none⟩ = some (.int .i64 0) := (blk_cell BK562.out 0).trans rfl; have hcz43_1 : w42.cell? ⟨gb562, 1, none⟩ = some (.string (⟨#[]⟩ : ByteArray)) := (blk_cell BK562.out 1).trans rfl; have hcz43_2 : w42.cell? ⟨gb562, 2, none⟩ = some (.int .i64 0) := (blk_cell BK562.out 2).trans rfl; have hcz43_3 : w42.cell? ⟨gb562, 3, none⟩ = some (.int .i64 0) := (blk_cell BK562.out 3).trans rfl; have hcz43_4 : w42.cell? ⟨gb562, 4, none⟩ = some (.int .i64 0) := (blk_cell BK562.out 4).trans rfl; have hcz43_5 : w42.cell? ⟨gb562, 5, none⟩ = some (.int .i64 0) := (blk_cell BK562.out 5).trans rfl; have hfz43_0 := blk_frozen BK562.out 0; have hfz43_1 := blk_frozen BK562.out 1; have hfz43_2 := blk_frozen BK562.out 2; have hfz43_3 := blk_frozen BK562.out 3; have hfz43_4 := blk_frozen BK562.out 4; have hfz43_5 := blk_frozen BK562.out 5)); try go_wp2_with (first | ((with_reducible refine gate_dst (N := 4) rfl ?_); (try (refine gate_guard (by rfl) ?_; dsimp only)); refine box_event ?hg (N := 4) ?hd (cs := #[.int .i64 0, .string (⟨#[]⟩ : ByteArray), .int .i64 0, .int .i64 0, .int .i64 0, .int .i64 0]) (t := 113) ?hr ?_; (case hd => rfl); (case hg => rfl); (case hr => first | (go_simp; done) | (go_simp; rfl)); intro gb562 hg w42 hbox hb; have BK562 := Aside0.mk hbox; have GW562 := geA hg HB; have GE562 := geA hg HB; replace HB := bsA HB hb; clear hb hbox hg; have p5 : 0 ≤ (a1 : Int) := of_decide_eq_true (by first | (with_reducible assumption) | assumption); have q5 : a1 < (a0.size : Int) := of_decide_eq_true (by first | (with_reducible assumption) | assumption); have hx5 := bt_at a0 a1; replace p5 := eq_true p5; replace q5 := eq_true q5) | (go_at_call 82; (with_reducible refine (refrainref5_letter.calls (bt a0 a1) false _ A6.out).mono ?_); rintro e w' ⟨rfl, ⟨nd, rfl⟩⟩; (try first | exact ⟨rfl, _, World.drewN_drewN _ _ _⟩ | exact ⟨rfl, _, Eq.trans (World.drewN_drewN _ _ _) (congrArg (World.drewN _) (Nat.add_assoc _ _ _))⟩)) | (go_at_call 84; (with_reducible refine (refrainref5_digit.calls (bt a0 a1) true _ A17.out).mono ?_); rintro e w' ⟨rfl, ⟨nd, rfl⟩⟩; (try first | exact ⟨rfl, _, World.drewN_drewN _ _ _⟩ | exact ⟨rfl, _, Eq.trans (World.drewN_drewN _ _ _) (congrArg (World.drewN _) (Nat.add_assoc _ _ _))⟩)) | (go_at_call 83; (with_reducible refine (refrainref5_run.calls k a0 a1 false t566 _ A19.out).mono ?_); rintro e w' ⟨rfl, ⟨nd, rfl⟩⟩; (try first | exact ⟨rfl, _, World.drewN_drewN _ _ _⟩ | exact ⟨rfl, _, Eq.trans (World.drewN_drewN _ _ _) (congrArg (World.drewN _) (Nat.add_assoc _ _ _))⟩)) | (go_at_call 85; (with_reducible refine (refrainref5_small.calls k (a0.extract (a1 : Int).toNat (t566 : Int).toNat) false _ A23.out).mono ?_); rintro e w' ⟨rfl, ⟨nd, rfl⟩⟩; (try first | exact ⟨rfl, _, World.drewN_drewN _ _ _⟩ | exact ⟨rfl, _, Eq.trans (World.drewN_drewN _ _ _) (congrArg (World.drewN _) (Nat.add_assoc _ _ _))⟩); have hcz43_0 : w42.cell? ⟨gb562, 0, none⟩ = some (.int .i64 0) := (blk_cell BK562.out 0).trans rfl; have hcz43_1 : w42.cell? ⟨gb562, 1, none⟩ = some (.string (⟨#[]⟩ : ByteArray)) := (blk_cell BK562.out 1).trans rfl; have hcz43_2 : w42.cell? ⟨gb562, 2, none⟩ = some (.int .i64 0) := (blk_cell BK562.out 2).trans rfl; have hcz43_3 : w42.cell? ⟨gb562, 3, none⟩ = some (.int .i64 0) := (blk_cell BK562.out 3).trans rfl; have hcz43_4 : w42.cell? ⟨gb562, 4, none⟩ = some (.int .i64 0) := (blk_cell BK562.out 4).trans rfl; have hcz43_5 : w42.cell? ⟨gb562, 5, none⟩ = some (.int .i64 0) := (blk_cell BK562.out 5).trans rfl; have hfz43_0 := blk_frozen BK562.out 0; have hfz43_1 := blk_frozen BK562.out 1; have hfz43_2 := blk_frozen BK562.out 2; have hfz43_3 := blk_frozen BK562.out 3; have hfz43_4 := blk_frozen BK562.out 4; have hfz43_5 := blk_frozen BK562.out 5)))
                refine bodyPost_ret (results_cell_row rfl _ _ gb562 113 #[.int .i64 0, .string (⟨#[]⟩ : ByteArray), .int .i64 0, .int .i64 0, .int .i64 a1, .int .i64 51] (0, 0) _ rfl (by (with_reducible repeat (first | refine blk_drewN ?_ _ | refine blk_drew ?_ | refine blk_alloc ?_ _)); refine blk_put (cs := #[.int .i64 0, .string (⟨#[]⟩ : ByteArray), .int .i64 0, .int .i64 0, .int .i64 a1, .int .i64 0]) ?_ 5 _ rfl; (with_reducible repeat (first | refine blk_drewN ?_ _ | refine blk_drew ?_ | refine blk_alloc ?_ _)); refine blk_put (cs := #[.int .i64 0, .string (⟨#[]⟩ : ByteArray), .int .i64 0, .int .i64 0, .int .i64 0, .int .i64 0]) ?_ 4 _ rfl; (with_reducible repeat (first | refine blk_drewN ?_ _ | refine blk_drew ?_ | refine blk_alloc ?_ _)); refine blk_put (cs := #[.int .i64 0, .string (⟨#[]⟩ : ByteArray), .int .i64 0, .int .i64 0, .int .i64 0, .int .i64 0]) ?_ 3 _ rfl; (with_reducible repeat (first | refine blk_drewN ?_ _ | refine blk_drew ?_ | refine blk_alloc ?_ _)); refine blk_put (cs := #[.int .i64 0, .string (⟨#[]⟩ : ByteArray), .int .i64 0, .int .i64 0, .int .i64 0, .int .i64 0]) ?_ 2 _ rfl; (with_reducible repeat (first | refine blk_drewN ?_ _ | refine blk_drew ?_ | refine blk_alloc ?_ _)); refine blk_put (cs := #[.int .i64 0, .string (⟨#[]⟩ : ByteArray), .int .i64 0, .int .i64 0, .int .i64 0, .int .i64 0]) ?_ 1 _ rfl; (with_reducible repeat (first | refine blk_drewN ?_ _ | refine blk_drew ?_ | refine blk_alloc ?_ _)); refine blk_put (cs := #[.int .i64 0, .string (⟨#[]⟩ : ByteArray), .int .i64 0, .int .i64 0, .int .i64 0, .int .i64 0]) ?_ 0 _ rfl; (with_reducible repeat (first | refine blk_drewN ?_ _ | refine blk_drew ?_ | refine blk_alloc ?_ _)); exact BK562.out) Tryd.underlying113 rfl (by kernel_rfl)) rfl ?_
                exact ⟨by first | rfl | (simp [errW_none, errW_some] <;> rfl) | (simp [*, errW_none, errW_some] <;> rfl), hbT HB.out⟩
            · rw [if_neg c22] at H
              exact absurd H (by simp)
          · rw [if_neg c21] at H
            exact absurd H (by simp)
        · replace c18 := Bool.eq_false_iff.mpr c18
          subst c18
          have H1 : (if (bt a0 a1) = 34 then ((refrainref5_str.f k a0 a1).bind fun bt569 => (some (bt569.1, bt569.2.1, bt569.2.2.1, bt569.2.2.2.1, bt569.2.2.2.2.1, bt569.2.2.2.2.2))) else ((refrainref5_signs.f).bind fun t575 => (refrainref5_one.l0 k a0 a1 t575 0))) = some (r1, r2, r3, r4, r5, r6) := by rw [if_neg (show ¬ (false = true) by decide)] at H; exact H
          clear H
          have H := H1
          clear H1
          by_cases c44 : (bt a0 a1) = 34
          · rw [if_pos c44] at H
            have c44b0 : ((bt a0 a1) == 34) = true := beq_iff_eq.mpr c44
            have c44b1 : ((bt a0 a1) != 34) = false := bne_eq_false_iff_eq.mpr c44
            clear c44
            replace H := Option.bind_eq_some_iff.mp H
            obtain ⟨⟨t569, t570, t571, t572, t573, t574⟩, A450, H⟩ := H
            replace H : (some (t569, t570, t571, t572, t573, t574)) = some (r1, r2, r3, r4, r5, r6) := H
            have A45 := Aside0.mk A450
            clear A450
            simp only [Option.some.injEq, Prod.mk.injEq] at H
            obtain ⟨rfl, rfl, rfl, rfl, rfl, rfl⟩ := H
            go_enter Tryd.func68, Tryd.ntmps68
            go_wp2_with (first | ((with_reducible refine gate_dst (N := 4) rfl ?_); (try (refine gate_guard (by rfl) ?_; dsimp only)); refine box_event ?hg (N := 4) ?hd (cs := #[.int .i64 0, .string (⟨#[]⟩ : ByteArray), .int .i64 0, .int .i64 0, .int .i64 0, .int .i64 0]) (t := 113) ?hr ?_; (case hd => rfl); (case hg => rfl); (case hr => first | (go_simp; done) | (go_simp; rfl)); intro gb562 hg w46 hbox hb; have BK562 := Aside0.mk hbox; have GW562 := geA hg HB; have GE562 := geA hg HB; replace HB := bsA HB hb; clear hb hbox hg; have p5 : 0 ≤ (a1 : Int) := of_decide_eq_true (by first | (with_reducible assumption) | assumption); have q5 : a1 < (a0.size : Int) := of_decide_eq_true (by first | (with_reducible assumption) | assumption); have hx5 := bt_at a0 a1; replace p5 := eq_true p5; replace q5 := eq_true q5) | (go_at_call 82; (with_reducible refine (refrainref5_letter.calls (bt a0 a1) false _ A6.out).mono ?_); rintro e w' ⟨rfl, ⟨nd, rfl⟩⟩; (try first | exact ⟨rfl, _, World.drewN_drewN _ _ _⟩ | exact ⟨rfl, _, Eq.trans (World.drewN_drewN _ _ _) (congrArg (World.drewN _) (Nat.add_assoc _ _ _))⟩)) | (go_at_call 84; (with_reducible refine (refrainref5_digit.calls (bt a0 a1) false _ A17.out).mono ?_); rintro e w' ⟨rfl, ⟨nd, rfl⟩⟩; (try first | exact ⟨rfl, _, World.drewN_drewN _ _ _⟩ | exact ⟨rfl, _, Eq.trans (World.drewN_drewN _ _ _) (congrArg (World.drewN _) (Nat.add_assoc _ _ _))⟩)) | (go_at_call 86; (with_reducible refine (refrainref5_str.calls k a0 a1 t569 t570 t571 t572 t573 t574 _ A45.out).mono ?_); rintro e w47 ⟨rfl, hb⟩; replace BK562 := bbA BK562 hb; replace HB := bsA HB hb; (try clear hb); (try clear hb2); (try clear hk); (try clear hi); have hcz48_0 : w47.cell? ⟨gb562, 0, none⟩ = some (.int .i64 0) := (blk_cell BK562.out 0).trans rfl; have hcz48_1 : w47.cell? ⟨gb562, 1, none⟩ = some (.string (⟨#[]⟩ : ByteArray)) := (blk_cell BK562.out 1).trans rfl; have hcz48_2 : w47.cell? ⟨gb562, 2, none⟩ = some (.int .i64 0) := (blk_cell BK562.out 2).trans rfl; have hcz48_3 : w47.cell? ⟨gb562, 3, none⟩ = some (.int .i64 0) := (blk_cell BK562.out 3).trans rfl; have hcz48_4 : w47.cell? ⟨gb562, 4, none⟩ = some (.int .i64 0) := (blk_cell BK562.out 4).trans rfl; have hcz48_5 : w47.cell? ⟨gb562, 5, none⟩ = some (.int .i64 0) := (blk_cell BK562.out 5).trans rfl; have hfz48_0 := blk_frozen BK562.out 0; have hfz48_1 := blk_frozen BK562.out 1; have hfz48_2 := blk_frozen BK562.out 2; have hfz48_3 := blk_frozen BK562.out 3; have hfz48_4 := blk_frozen BK562.out 4; have hfz48_5 := blk_frozen BK562.out 5))
            repeat (go_quiet (first | ((with_reducible refine gate_dst (N := 4) rfl ?_); (try (refine gate_guard (by rfl) ?_; dsimp only)); refine box_event ?hg (N := 4) ?hd (cs := #[.int .i64 0, .string (⟨#[]⟩ : ByteArray), .int .i64 0, .int .i64 0, .int .i64 0, .int .i64 0]) (t := 113) ?hr ?_; (case hd => rfl); (case hg => rfl); (case hr => first | (go_simp; done) | (go_simp; rfl)); intro gb562 hg w46 hbox hb; have BK562 := Aside0.mk hbox; have GW562 := geA hg HB; have GE562 := geA hg HB; replace HB := bsA HB hb; clear hb hbox hg; have p5 : 0 ≤ (a1 : Int) := of_decide_eq_true (by first | (with_reducible assumption) | assumption); have q5 : a1 < (a0.size : Int) := of_decide_eq_true (by first | (with_reducible assumption) | assumption); have hx5 := bt_at a0 a1; replace p5 := eq_true p5; replace q5 := eq_true q5) | (go_at_call 82; (with_reducible refine (refrainref5_letter.calls (bt a0 a1) false _ A6.out).mono ?_); rintro e w' ⟨rfl, ⟨nd, rfl⟩⟩; (try first | exact ⟨rfl, _, World.drewN_drewN _ _ _⟩ | exact ⟨rfl, _, Eq.trans (World.drewN_drewN _ _ _) (congrArg (World.drewN _) (Nat.add_assoc _ _ _))⟩)) | (go_at_call 84; (with_reducible refine (refrainref5_digit.calls (bt a0 a1) false _ A17.out).mono ?_); rintro e w' ⟨rfl, ⟨nd, rfl⟩⟩; (try first | exact ⟨rfl, _, World.drewN_drewN _ _ _⟩ | exact ⟨rfl, _, Eq.trans (World.drewN_drewN _ _ _) (congrArg (World.drewN _) (Nat.add_assoc _ _ _))⟩)) | (go_at_call 86; (with_reducible refine (refrainref5_str.calls k a0 a1 t569 t570 t571 t572 t573 t574 _ A45.out).mono ?_); rintro e w47 ⟨rfl, hb⟩; replace BK562 := bbA BK562 hb; replace HB := bsA HB hb; (try clear hb); (try clear hb2); (try clear hk); (try clear hi); have hcz48_0 : w47.cell? ⟨gb562, 0, none⟩ = some (.int .i64 0) := (blk_cell BK562.out 0).trans rfl; have hcz48_1 : w47.cell? ⟨gb562, 1, none⟩ = some (.string (⟨#[]⟩ : ByteArray)) := (blk_cell BK562.out 1).trans rfl; have hcz48_2 : w47.cell? ⟨gb562, 2, none⟩ = some (.int .i64 0) := (blk_cell BK562.out 2).trans rfl; have hcz48_3 : w47.cell? ⟨gb562, 3, none⟩ = some (.int .i64 0) := (blk_cell BK562.out 3).trans rfl; have hcz48_4 : w47.cell? ⟨gb562, 4, none⟩ = some (.int .i64 0) := (blk_cell BK562.out 4).trans rfl; have hcz48_5 : w47.cell? ⟨gb562, 5, none⟩ = some (.int .i64 0) := (blk_cell BK562.out 5).trans rfl; have hfz48_0 := blk_frozen BK562.out 0; have hfz48_1 := blk_frozen BK562.out 1; have hfz48_2 := blk_frozen BK562.out 2; have hfz48_3 := blk_frozen BK562.out 3; have hfz48_4 := blk_frozen BK562.out 4; have hfz48_5 := blk_frozen BK562.out 5)); try go_wp2_with (first | ((with_reducible refine gate_dst (N := 4) rfl ?_); (try (refine gate_guard (by rfl) ?_; dsimp only)); refine box_event ?hg (N := 4) ?hd (cs := #[.int .i64 0, .string (⟨#[]⟩ : ByteArray), .int .i64 0, .int .i64 0, .int .i64 0, .int .i64 0]) (t := 113) ?hr ?_; (case hd => rfl); (case hg => rfl); (case hr => first | (go_simp; done) | (go_simp; rfl)); intro gb562 hg w46 hbox hb; have BK562 := Aside0.mk hbox; have GW562 := geA hg HB; have GE562 := geA hg HB; replace HB := bsA HB hb; clear hb hbox hg; have p5 : 0 ≤ (a1 : Int) := of_decide_eq_true (by first | (with_reducible assumption) | assumption); have q5 : a1 < (a0.size : Int) := of_decide_eq_true (by first | (with_reducible assumption) | assumption); have hx5 := bt_at a0 a1; replace p5 := eq_true p5; replace q5 := eq_true q5) | (go_at_call 82; (with_reducible refine (refrainref5_letter.calls (bt a0 a1) false _ A6.out).mono ?_); rintro e w' ⟨rfl, ⟨nd, rfl⟩⟩; (try first | exact ⟨rfl, _, World.drewN_drewN _ _ _⟩ | exact ⟨rfl, _, Eq.trans (World.drewN_drewN _ _ _) (congrArg (World.drewN _) (Nat.add_assoc _ _ _))⟩)) | (go_at_call 84; (with_reducible refine (refrainref5_digit.calls (bt a0 a1) false _ A17.out).mono ?_); rintro e w' ⟨rfl, ⟨nd, rfl⟩⟩; (try first | exact ⟨rfl, _, World.drewN_drewN _ _ _⟩ | exact ⟨rfl, _, Eq.trans (World.drewN_drewN _ _ _) (congrArg (World.drewN _) (Nat.add_assoc _ _ _))⟩)) | (go_at_call 86; (with_reducible refine (refrainref5_str.calls k a0 a1 t569 t570 t571 t572 t573 t574 _ A45.out).mono ?_); rintro e w47 ⟨rfl, hb⟩; replace BK562 := bbA BK562 hb; replace HB := bsA HB hb; (try clear hb); (try clear hb2); (try clear hk); (try clear hi); have hcz48_0 : w47.cell? ⟨gb562, 0, none⟩ = some (.int .i64 0) := (blk_cell BK562.out 0).trans rfl; have hcz48_1 : w47.cell? ⟨gb562, 1, none⟩ = some (.string (⟨#[]⟩ : ByteArray)) := (blk_cell BK562.out 1).trans rfl; have hcz48_2 : w47.cell? ⟨gb562, 2, none⟩ = some (.int .i64 0) := (blk_cell BK562.out 2).trans rfl; have hcz48_3 : w47.cell? ⟨gb562, 3, none⟩ = some (.int .i64 0) := (blk_cell BK562.out 3).trans rfl; have hcz48_4 : w47.cell? ⟨gb562, 4, none⟩ = some (.int .i64 0) := (blk_cell BK562.out 4).trans rfl; have hcz48_5 : w47.cell? ⟨gb562, 5, none⟩ = some (.int .i64 0) := (blk_cell BK562.out 5).trans rfl; have hfz48_0 := blk_frozen BK562.out 0; have hfz48_1 := blk_frozen BK562.out 1; have hfz48_2 := blk_frozen BK562.out 2; have hfz48_3 := blk_frozen BK562.out 3; have hfz48_4 := blk_frozen BK562.out 4; have hfz48_5 := blk_frozen BK562.out 5)))
            refine bodyPost_ret (results_cell_row rfl _ _ gb562 113 #[.int .i64 t569, .string t570, .int .i64 t571, .int .i64 t572, .int .i64 t573, .int .i64 t574] (0, 0) _ rfl (by (with_reducible repeat (first | refine blk_drewN ?_ _ | refine blk_drew ?_ | refine blk_alloc ?_ _)); refine blk_put (cs := #[.int .i64 t569, .string t570, .int .i64 t571, .int .i64 t572, .int .i64 t573, .int .i64 0]) ?_ 5 _ rfl; (with_reducible repeat (first | refine blk_drewN ?_ _ | refine blk_drew ?_ | refine blk_alloc ?_ _)); refine blk_put (cs := #[.int .i64 t569, .string t570, .int .i64 t571, .int .i64 t572, .int .i64 0, .int .i64 0]) ?_ 4 _ rfl; (with_reducible repeat (first | refine blk_drewN ?_ _ | refine blk_drew ?_ | refine blk_alloc ?_ _)); refine blk_put (cs := #[.int .i64 t569, .string t570, .int .i64 t571, .int .i64 0, .int .i64 0, .int .i64 0]) ?_ 3 _ rfl; (with_reducible repeat (first | refine blk_drewN ?_ _ | refine blk_drew ?_ | refine blk_alloc ?_ _)); refine blk_put (cs := #[.int .i64 t569, .string t570, .int .i64 0, .int .i64 0, .int .i64 0, .int .i64 0]) ?_ 2 _ rfl; (with_reducible repeat (first | refine blk_drewN ?_ _ | refine blk_drew ?_ | refine blk_alloc ?_ _)); refine blk_put (cs := #[.int .i64 t569, .string (⟨#[]⟩ : ByteArray), .int .i64 0, .int .i64 0, .int .i64 0, .int .i64 0]) ?_ 1 _ rfl; (with_reducible repeat (first | refine blk_drewN ?_ _ | refine blk_drew ?_ | refine blk_alloc ?_ _)); refine blk_put (cs := #[.int .i64 0, .string (⟨#[]⟩ : ByteArray), .int .i64 0, .int .i64 0, .int .i64 0, .int .i64 0]) ?_ 0 _ rfl; (with_reducible repeat (first | refine blk_drewN ?_ _ | refine blk_drew ?_ | refine blk_alloc ?_ _)); exact BK562.out) Tryd.underlying113 rfl (by kernel_rfl)) rfl ?_
            exact ⟨by first | rfl | (simp [errW_none, errW_some] <;> rfl) | (simp [*, errW_none, errW_some] <;> rfl), hbT HB.out⟩
          · rw [if_neg c44] at H
            have c44b0 : ((bt a0 a1) == 34) = false := beq_eq_false_iff_ne.mpr c44
            have c44b1 : ((bt a0 a1) != 34) = true := bne_iff_ne.mpr c44
            replace H := Option.bind_eq_some_iff.mp H
            obtain ⟨t575, A490, H⟩ := H
            replace H : (refrainref5_one.l0 k a0 a1 t575 0) = some (r1, r2, r3, r4, r5, r6) := H
            have A49 := Aside0.mk A490
            clear A490
            have H' := Aside0.mk H
            clear H
            go_enter Tryd.func68, Tryd.ntmps68
            go_wp2_with (first | ((with_reducible refine gate_dst (N := 4) rfl ?_); (try (refine gate_guard (by rfl) ?_; dsimp only)); refine box_event ?hg (N := 4) ?hd (cs := #[.int .i64 0, .string (⟨#[]⟩ : ByteArray), .int .i64 0, .int .i64 0, .int .i64 0, .int .i64 0]) (t := 113) ?hr ?_; (case hd => rfl); (case hg => rfl); (case hr => first | (go_simp; done) | (go_simp; rfl)); intro gb562 hg w50 hbox hb; have BK562 := Aside0.mk hbox; have GW562 := geA hg HB; have GE562 := geA hg HB; replace HB := bsA HB hb; clear hb hbox hg; have p5 : 0 ≤ (a1 : Int) := of_decide_eq_true (by first | (with_reducible assumption) | assumption); have q5 : a1 < (a0.size : Int) := of_decide_eq_true (by first | (with_reducible assumption) | assumption); have hx5 := bt_at a0 a1; replace p5 := eq_true p5; replace q5 := eq_true q5) | (go_at_call 82; (with_reducible refine (refrainref5_letter.calls (bt a0 a1) false _ A6.out).mono ?_); rintro e w' ⟨rfl, ⟨nd, rfl⟩⟩; (try first | exact ⟨rfl, _, World.drewN_drewN _ _ _⟩ | exact ⟨rfl, _, Eq.trans (World.drewN_drewN _ _ _) (congrArg (World.drewN _) (Nat.add_assoc _ _ _))⟩)) | (go_at_call 84; (with_reducible refine (refrainref5_digit.calls (bt a0 a1) false _ A17.out).mono ?_); rintro e w' ⟨rfl, ⟨nd, rfl⟩⟩; (try first | exact ⟨rfl, _, World.drewN_drewN _ _ _⟩ | exact ⟨rfl, _, Eq.trans (World.drewN_drewN _ _ _) (congrArg (World.drewN _) (Nat.add_assoc _ _ _))⟩)) | (go_at_call 87; (with_reducible refine (refrainref5_signs.calls  t575 _ A49.out).mono ?_); rintro e w51 ⟨v576, rfl, ho0, hb⟩; have HO577 := Aside0.mk (Kd.R_lower ho0 (below_size (hbT HB.out))); replace BK562 := bbA BK562 hb; replace HB := bsA HB hb; (try clear hb); (try clear hb2); (try clear hk); (try clear hi); (try clear ho0)))
            repeat (go_quiet (first | ((with_reducible refine gate_dst (N := 4) rfl ?_); (try (refine gate_guard (by rfl) ?_; dsimp only)); refine box_event ?hg (N := 4) ?hd (cs := #[.int .i64 0, .string (⟨#[]⟩ : ByteArray), .int .i64 0, .int .i64 0, .int .i64 0, .int .i64 0]) (t := 113) ?hr ?_; (case hd => rfl); (case hg => rfl); (case hr => first | (go_simp; done) | (go_simp; rfl)); intro gb562 hg w50 hbox hb; have BK562 := Aside0.mk hbox; have GW562 := geA hg HB; have GE562 := geA hg HB; replace HB := bsA HB hb; clear hb hbox hg; have p5 : 0 ≤ (a1 : Int) := of_decide_eq_true (by first | (with_reducible assumption) | assumption); have q5 : a1 < (a0.size : Int) := of_decide_eq_true (by first | (with_reducible assumption) | assumption); have hx5 := bt_at a0 a1; replace p5 := eq_true p5; replace q5 := eq_true q5) | (go_at_call 82; (with_reducible refine (refrainref5_letter.calls (bt a0 a1) false _ A6.out).mono ?_); rintro e w' ⟨rfl, ⟨nd, rfl⟩⟩; (try first | exact ⟨rfl, _, World.drewN_drewN _ _ _⟩ | exact ⟨rfl, _, Eq.trans (World.drewN_drewN _ _ _) (congrArg (World.drewN _) (Nat.add_assoc _ _ _))⟩)) | (go_at_call 84; (with_reducible refine (refrainref5_digit.calls (bt a0 a1) false _ A17.out).mono ?_); rintro e w' ⟨rfl, ⟨nd, rfl⟩⟩; (try first | exact ⟨rfl, _, World.drewN_drewN _ _ _⟩ | exact ⟨rfl, _, Eq.trans (World.drewN_drewN _ _ _) (congrArg (World.drewN _) (Nat.add_assoc _ _ _))⟩)) | (go_at_call 87; (with_reducible refine (refrainref5_signs.calls  t575 _ A49.out).mono ?_); rintro e w51 ⟨v576, rfl, ho0, hb⟩; have HO577 := Aside0.mk (Kd.R_lower ho0 (below_size (hbT HB.out))); replace BK562 := bbA BK562 hb; replace HB := bsA HB hb; (try clear hb); (try clear hb2); (try clear hk); (try clear hi); (try clear ho0))); try go_wp2_with (first | ((with_reducible refine gate_dst (N := 4) rfl ?_); (try (refine gate_guard (by rfl) ?_; dsimp only)); refine box_event ?hg (N := 4) ?hd (cs := #[.int .i64 0, .string (⟨#[]⟩ : ByteArray), .int .i64 0, .int .i64 0, .int .i64 0, .int .i64 0]) (t := 113) ?hr ?_; (case hd => rfl); (case hg => rfl); (case hr => first | (go_simp; done) | (go_simp; rfl)); intro gb562 hg w50 hbox hb; have BK562 := Aside0.mk hbox; have GW562 := geA hg HB; have GE562 := geA hg HB; replace HB := bsA HB hb; clear hb hbox hg; have p5 : 0 ≤ (a1 : Int) := of_decide_eq_true (by first | (with_reducible assumption) | assumption); have q5 : a1 < (a0.size : Int) := of_decide_eq_true (by first | (with_reducible assumption) | assumption); have hx5 := bt_at a0 a1; replace p5 := eq_true p5; replace q5 := eq_true q5) | (go_at_call 82; (with_reducible refine (refrainref5_letter.calls (bt a0 a1) false _ A6.out).mono ?_); rintro e w' ⟨rfl, ⟨nd, rfl⟩⟩; (try first | exact ⟨rfl, _, World.drewN_drewN _ _ _⟩ | exact ⟨rfl, _, Eq.trans (World.drewN_drewN _ _ _) (congrArg (World.drewN _) (Nat.add_assoc _ _ _))⟩)) | (go_at_call 84; (with_reducible refine (refrainref5_digit.calls (bt a0 a1) false _ A17.out).mono ?_); rintro e w' ⟨rfl, ⟨nd, rfl⟩⟩; (try first | exact ⟨rfl, _, World.drewN_drewN _ _ _⟩ | exact ⟨rfl, _, Eq.trans (World.drewN_drewN _ _ _) (congrArg (World.drewN _) (Nat.add_assoc _ _ _))⟩)) | (go_at_call 87; (with_reducible refine (refrainref5_signs.calls  t575 _ A49.out).mono ?_); rintro e w51 ⟨v576, rfl, ho0, hb⟩; have HO577 := Aside0.mk (Kd.R_lower ho0 (below_size (hbT HB.out))); replace BK562 := bbA BK562 hb; replace HB := bsA HB hb; (try clear hb); (try clear hb2); (try clear hk); (try clear hi); (try clear ho0))))
            go_loopg [9] k (fun kq v9 w' => ∃ (x9_1 : Int) (x563000_1 : Int) (x563001_1 : ByteArray) (x563002_1 : Int) (x563003_1 : Int) (x563004_1 : Int) (x563005_1 : Int), v9 = .int .i64 x9_1 ∧ Aside0 (refrainref5_one.l0 kq a0 a1 t575 x9_1 = some (r1, r2, r3, r4, r5, r6)) ∧ Aside0 (kq ≤ k) ∧ Aside0 (Kd.R Kd.string 9 w' w.heap.size (fun _ => True) v576 t575) ∧ Aside0 (w'.heap[gb562]? = some (.cells #[.int .i64 x563000_1, .string x563001_1, .int .i64 x563002_1, .int .i64 x563003_1, .int .i64 x563004_1, .int .i64 x563005_1] 113 (0, 0))) ∧ Aside0 (Below w.heap.size w w'))
            case atStart => exact ⟨(0), (0), ((⟨#[]⟩ : ByteArray)), (0), (0), (0), (0), (by first | rfl | (simp; done) | (simp [*]; done) | (simp; unfold wrap64; omega) | (congr 1; (try rw [Bool.eq_iff_iff]); simp [List.isEmpty_iff]; done)), H', ⟨Nat.le_refl _⟩, ⟨by (with_reducible repeat (first | apply Kd.R_alloc | apply Kd.R_drewN | apply Kd.R_drew)); exact HO577.out⟩, ⟨bkT BK562.out⟩, ⟨hbT HB.out⟩⟩
            case round =>
              clear H'
              try clear c1
              try clear c2
              try clear p2
              try clear q2
              try clear hx2
              try clear c3
              try clear c3b0
              try clear c4
              try clear c4b0
              try clear p5
              try clear q5
              try clear hx5
              try clear c6
              try clear p6
              try clear c7
              try clear c9
              try clear c9b0
              try clear c12
              try clear c12b0
              try clear c13
              try clear c13b0
              try clear c13b1
              try clear c14
              try clear c14b0
              try clear c14b1
              try clear c18
              try clear c20
              try clear c20b0
              try clear c21
              try clear c21b0
              try clear c21b1
              try clear c22
              try clear c22b0
              try clear c22b1
              try clear c24
              try clear c25
              try clear c25b0
              try clear c26
              try clear c26b0
              try clear p27
              try clear q27
              try clear hx27
              try clear c29
              try clear c32
              try clear c32b0
              try clear c33
              try clear c33b0
              try clear c34
              try clear c34b0
              try clear c37
              try clear c37b0
              try clear c38
              try clear c38b0
              try clear c39
              try clear c39b0
              try clear c44
              try clear c44b0
              try clear c44b1
              try clear hcz11_0 hcz11_1 hcz11_2 hcz11_3 hcz11_4 hcz11_5
              try clear hcz16_0 hcz16_1 hcz16_2 hcz16_3 hcz16_4 hcz16_5
              try clear hcz31_0 hcz31_1 hcz31_2 hcz31_3 hcz31_4 hcz31_5
              try clear hcz36_0 hcz36_1 hcz36_2 hcz36_3 hcz36_4 hcz36_5
              try clear hcz41_0 hcz41_1 hcz41_2 hcz41_3 hcz41_4 hcz41_5
              try clear hcz43_0 hcz43_1 hcz43_2 hcz43_3 hcz43_4 hcz43_5
              try clear hcz48_0 hcz48_1 hcz48_2 hcz48_3 hcz48_4 hcz48_5
              try clear hfz11_0 hfz11_1 hfz11_2 hfz11_3 hfz11_4 hfz11_5
              try clear hfz16_0 hfz16_1 hfz16_2 hfz16_3 hfz16_4 hfz16_5
              try clear hfz31_0 hfz31_1 hfz31_2 hfz31_3 hfz31_4 hfz31_5
              try clear hfz36_0 hfz36_1 hfz36_2 hfz36_3 hfz36_4 hfz36_5
              try clear hfz41_0 hfz41_1 hfz41_2 hfz41_3 hfz41_4 hfz41_5
              try clear hfz43_0 hfz43_1 hfz43_2 hfz43_3 hfz43_4 hfz43_5
              try clear hfz48_0 hfz48_1 hfz48_2 hfz48_3 hfz48_4 hfz48_5
              try clear p27
              try clear p5
              try clear q27
              try clear q5
              obtain ⟨x9_1, x563000_1, x563001_1, x563002_1, x563003_1, x563004_1, x563005_1, rfl, HA, HK1, HO_8, BK562, HB⟩ := hrel
              cases gk with
              | zero => (have HA2 := HA.out; clear HA; revert HA2; rw [refrainref5_one.l0_zero]; intro h_; cases h_)
              | succ k1 =>
                have H := HA.out
                clear HA
                simp only [refrainref5_one.l0] at H
                by_cases c52 : x9_1 < (t575.length : Int)
                · rw [if_pos c52] at H
                  have c52b0 : decide (x9_1 < (t575.length : Int)) = true := decide_eq_true c52
                  clear c52
                  by_cases c53 : 0 ≤ x9_1
                  · rw [if_pos c53] at H
                    have c53b0 : decide (0 ≤ x9_1) = true := decide_eq_true c53
                    clear c53
                    by_cases c54 : (wrap64 (a1 + ((rdOf ByteArray.empty t575 x9_1).size : Int))) ≤ (a0.size : Int)
                    · rw [if_pos c54] at H
                      have c54b0 : decide ((wrap64 (a1 + ((rdOf ByteArray.empty t575 x9_1).size : Int))) ≤ (a0.size : Int)) = true := decide_eq_true c54
                      clear c54
                      by_cases c55 : 0 ≤ a1
                      · rw [if_pos c55] at H
                        have c55b0 := eq_true c55
                        have c55b1 : decide (0 ≤ a1) = true := decide_eq_true c55
                        clear c55
                        by_cases c56 : a1 ≤ (wrap64 (a1 + ((rdOf ByteArray.empty t575 x9_1).size : Int)))
                        · rw [if_pos c56] at H
                          have c56b0 := eq_true c56
                          have c56b1 : decide (a1 ≤ (wrap64 (a1 + ((rdOf ByteArray.empty t575 x9_1).size : Int)))) = true := decide_eq_true c56
                          have c57b0 := eq_true (of_decide_eq_true (by first | (with_reducible assumption) | assumption) : (wrap64 (a1 + ((rdOf ByteArray.empty t575 x9_1).size : Int))) ≤ (a0.size : Int))
                          by_cases c58 : (a0.extract (a1 : Int).toNat ((wrap64 (a1 + ((rdOf ByteArray.empty t575 x9_1).size : Int))) : Int).toNat).toList = (rdOf ByteArray.empty t575 x9_1).toList
                          · rw [if_pos c58] at H
                            have c58b0 : ((a0.extract (a1 : Int).toNat ((wrap64 (a1 + ((rdOf ByteArray.empty t575 x9_1).size : Int))) : Int).toNat).toList == (rdOf ByteArray.empty t575 x9_1).toList) = true := beq_iff_eq.mpr c58
                            have c58b1 : ((a0.extract (a1 : Int).toNat ((wrap64 (a1 + ((rdOf ByteArray.empty t575 x9_1).size : Int))) : Int).toNat).toList != (rdOf ByteArray.empty t575 x9_1).toList) = false := bne_eq_false_iff_eq.mpr c58
                            clear c58
                            simp only [Option.some.injEq, Prod.mk.injEq] at H
                            obtain ⟨rfl, rfl, rfl, rfl, rfl, rfl⟩ := H
                            obtain ⟨Ao59, co59, eo59⟩ := Kd.R_slice HO_8.out
                            subst eo59
                            have p578 : 0 ≤ (x9_1 : Int) := of_decide_eq_true (by first | (with_reducible assumption) | assumption)
                            have q578 : x9_1 < (t575.length : Int) := of_decide_eq_true (by first | (with_reducible assumption) | assumption)
                            obtain ⟨ad578, e578, hx578_0⟩ := Kd.at_string (Kd.R_reads' HO_8.out).2.2 x9_1 p578 q578
                            cases e578
                            replace p578 := eq_true p578
                            replace q578 := eq_true q578
                            have p579 : 0 ≤ (x9_1 : Int) := of_decide_eq_true (by first | (with_reducible assumption) | assumption)
                            have q579 : x9_1 < (t575.length : Int) := of_decide_eq_true (by first | (with_reducible assumption) | assumption)
                            obtain ⟨ad579, e579, hx579_0⟩ := Kd.at_string (Kd.R_reads' HO_8.out).2.2 x9_1 p579 q579
                            obtain rfl : ad578 = ad579 := (by injection e579)
                            replace p579 := eq_true p579
                            replace q579 := eq_true q579
                            have p580 : 0 ≤ (x9_1 : Int) := of_decide_eq_true (by first | (with_reducible assumption) | assumption)
                            have q580 : x9_1 < (t575.length : Int) := of_decide_eq_true (by first | (with_reducible assumption) | assumption)
                            obtain ⟨ad580, e580, hx580_0⟩ := Kd.at_string (Kd.R_reads' HO_8.out).2.2 x9_1 p580 q580
                            obtain rfl : ad578 = ad580 := (by injection e580)
                            replace p580 := eq_true p580
                            replace q580 := eq_true q580
                            have hcz60_0 : wr.cell? ⟨gb562, 0, none⟩ = some (.int .i64 x563000_1) := (blk_cell BK562.out 0).trans rfl; have hcz60_1 : wr.cell? ⟨gb562, 1, none⟩ = some (.string x563001_1) := (blk_cell BK562.out 1).trans rfl; have hcz60_2 : wr.cell? ⟨gb562, 2, none⟩ = some (.int .i64 x563002_1) := (blk_cell BK562.out 2).trans rfl; have hcz60_3 : wr.cell? ⟨gb562, 3, none⟩ = some (.int .i64 x563003_1) := (blk_cell BK562.out 3).trans rfl; have hcz60_4 : wr.cell? ⟨gb562, 4, none⟩ = some (.int .i64 x563004_1) := (blk_cell BK562.out 4).trans rfl; have hcz60_5 : wr.cell? ⟨gb562, 5, none⟩ = some (.int .i64 x563005_1) := (blk_cell BK562.out 5).trans rfl; have hfz60_0 := blk_frozen BK562.out 0; have hfz60_1 := blk_frozen BK562.out 1; have hfz60_2 := blk_frozen BK562.out 2; have hfz60_3 := blk_frozen BK562.out 3; have hfz60_4 := blk_frozen BK562.out 4; have hfz60_5 := blk_frozen BK562.out 5
                            go_wp2
                            repeat (go_quiet (fail); try go_wp2)
                            refine bodyPost_ret (results_cell_row rfl _ _ gb562 113 #[.int .i64 4, .string (rdOf ByteArray.empty t575 x9_1), .int .i64 a1, .int .i64 (wrap64 (a1 + ((rdOf ByteArray.empty t575 x9_1).size : Int))), .int .i64 0, .int .i64 0] (0, 0) _ rfl (by (with_reducible repeat (first | refine blk_drewN ?_ _ | refine blk_drew ?_ | refine blk_alloc ?_ _)); refine blk_put (cs := #[.int .i64 4, .string (rdOf ByteArray.empty t575 x9_1), .int .i64 a1, .int .i64 (wrap64 (a1 + ((rdOf ByteArray.empty t575 x9_1).size : Int))), .int .i64 0, .int .i64 x563005_1]) ?_ 5 _ rfl; (with_reducible repeat (first | refine blk_drewN ?_ _ | refine blk_drew ?_ | refine blk_alloc ?_ _)); refine blk_put (cs := #[.int .i64 4, .string (rdOf ByteArray.empty t575 x9_1), .int .i64 a1, .int .i64 (wrap64 (a1 + ((rdOf ByteArray.empty t575 x9_1).size : Int))), .int .i64 x563004_1, .int .i64 x563005_1]) ?_ 4 _ rfl; (with_reducible repeat (first | refine blk_drewN ?_ _ | refine blk_drew ?_ | refine blk_alloc ?_ _)); refine blk_put (cs := #[.int .i64 4, .string (rdOf ByteArray.empty t575 x9_1), .int .i64 a1, .int .i64 x563003_1, .int .i64 x563004_1, .int .i64 x563005_1]) ?_ 3 _ rfl; (with_reducible repeat (first | refine blk_drewN ?_ _ | refine blk_drew ?_ | refine blk_alloc ?_ _)); refine blk_put (cs := #[.int .i64 4, .string (rdOf ByteArray.empty t575 x9_1), .int .i64 x563002_1, .int .i64 x563003_1, .int .i64 x563004_1, .int .i64 x563005_1]) ?_ 2 _ rfl; (with_reducible repeat (first | refine blk_drewN ?_ _ | refine blk_drew ?_ | refine blk_alloc ?_ _)); refine blk_put (cs := #[.int .i64 4, .string x563001_1, .int .i64 x563002_1, .int .i64 x563003_1, .int .i64 x563004_1, .int .i64 x563005_1]) ?_ 1 _ rfl; (with_reducible repeat (first | refine blk_drewN ?_ _ | refine blk_drew ?_ | refine blk_alloc ?_ _)); refine blk_put (cs := #[.int .i64 x563000_1, .string x563001_1, .int .i64 x563002_1, .int .i64 x563003_1, .int .i64 x563004_1, .int .i64 x563005_1]) ?_ 0 _ rfl; (with_reducible repeat (first | refine blk_drewN ?_ _ | refine blk_drew ?_ | refine blk_alloc ?_ _)); exact BK562.out) Tryd.underlying113 rfl (by kernel_rfl)) rfl ?_
                            exact ⟨by first | rfl | (simp [errW_none, errW_some] <;> rfl) | (simp [*, errW_none, errW_some] <;> rfl), hbT HB.out⟩
                          · rw [if_neg c58] at H
                            have c58b0 : ((a0.extract (a1 : Int).toNat ((wrap64 (a1 + ((rdOf ByteArray.empty t575 x9_1).size : Int))) : Int).toNat).toList == (rdOf ByteArray.empty t575 x9_1).toList) = false := beq_eq_false_iff_ne.mpr c58
                            have c58b1 : ((a0.extract (a1 : Int).toNat ((wrap64 (a1 + ((rdOf ByteArray.empty t575 x9_1).size : Int))) : Int).toNat).toList != (rdOf ByteArray.empty t575 x9_1).toList) = true := bne_iff_ne.mpr c58
                            have H' := Aside0.mk H
                            clear H
                            obtain ⟨Ao61, co61, eo61⟩ := Kd.R_slice HO_8.out
                            subst eo61
                            have p578 : 0 ≤ (x9_1 : Int) := of_decide_eq_true (by first | (with_reducible assumption) | assumption)
                            have q578 : x9_1 < (t575.length : Int) := of_decide_eq_true (by first | (with_reducible assumption) | assumption)
                            obtain ⟨ad578, e578, hx578_0⟩ := Kd.at_string (Kd.R_reads' HO_8.out).2.2 x9_1 p578 q578
                            cases e578
                            replace p578 := eq_true p578
                            replace q578 := eq_true q578
                            have p579 : 0 ≤ (x9_1 : Int) := of_decide_eq_true (by first | (with_reducible assumption) | assumption)
                            have q579 : x9_1 < (t575.length : Int) := of_decide_eq_true (by first | (with_reducible assumption) | assumption)
                            obtain ⟨ad579, e579, hx579_0⟩ := Kd.at_string (Kd.R_reads' HO_8.out).2.2 x9_1 p579 q579
                            obtain rfl : ad578 = ad579 := (by injection e579)
                            replace p579 := eq_true p579
                            replace q579 := eq_true q579
                            go_wp2
                            repeat (go_quiet (fail); try go_wp2)
                            go_roundg k1
                            case measure => have := HK1.out; omega
                            case rel => exact ⟨(wrap64 (x9_1 + 1)), (x563000_1), (x563001_1), (x563002_1), (x563003_1), (x563004_1), (x563005_1), (by first | rfl | (simp; done) | (simp [*]; done) | (simp; unfold wrap64; omega) | (congr 1; (try rw [Bool.eq_iff_iff]); simp [List.isEmpty_iff]; done)), H', ⟨by have := HK1.out; omega⟩, ⟨by (with_reducible repeat (first | apply Kd.R_alloc | apply Kd.R_drewN | apply Kd.R_drew)); exact HO_8.out⟩, ⟨bkT BK562.out⟩, ⟨hbT HB.out⟩⟩
                        · rw [if_neg c56] at H
                          exact absurd H (by simp)
                      · rw [if_neg c55] at H
                        exact absurd H (by simp)
                    · rw [if_neg c54] at H
                      have c54b0 : decide ((wrap64 (a1 + ((rdOf ByteArray.empty t575 x9_1).size : Int))) ≤ (a0.size : Int)) = false := decide_eq_false c54
                      clear c54
                      have H' := Aside0.mk H
                      clear H
                      obtain ⟨Ao62, co62, eo62⟩ := Kd.R_slice HO_8.out
                      subst eo62
                      have p578 : 0 ≤ (x9_1 : Int) := of_decide_eq_true (by first | (with_reducible assumption) | assumption)
                      have q578 : x9_1 < (t575.length : Int) := of_decide_eq_true (by first | (with_reducible assumption) | assumption)
                      obtain ⟨ad578, e578, hx578_0⟩ := Kd.at_string (Kd.R_reads' HO_8.out).2.2 x9_1 p578 q578
                      cases e578
                      replace p578 := eq_true p578
                      replace q578 := eq_true q578
                      go_wp2
                      repeat (go_quiet (fail); try go_wp2)
                      go_roundg k1
                      case measure => have := HK1.out; omega
                      case rel => exact ⟨(wrap64 (x9_1 + 1)), (x563000_1), (x563001_1), (x563002_1), (x563003_1), (x563004_1), (x563005_1), (by first | rfl | (simp; done) | (simp [*]; done) | (simp; unfold wrap64; omega) | (congr 1; (try rw [Bool.eq_iff_iff]); simp [List.isEmpty_iff]; done)), H', ⟨by have := HK1.out; omega⟩, ⟨by (with_reducible repeat (first | apply Kd.R_alloc | apply Kd.R_drewN | apply Kd.R_drew)); exact HO_8.out⟩, ⟨bkT BK562.out⟩, ⟨hbT HB.out⟩⟩
                  · rw [if_neg c53] at H
                    exact absurd H (by simp)
                · rw [if_neg c52] at H
                  have c52b0 : decide (x9_1 < (t575.length : Int)) = false := decide_eq_false c52
                  clear c52
                  simp only [Option.some.injEq, Prod.mk.injEq] at H
                  obtain ⟨rfl, rfl, rfl, rfl, rfl, rfl⟩ := H
                  obtain ⟨Ao63, co63, eo63⟩ := Kd.R_slice HO_8.out
                  subst eo63
                  have hcz64_0 : wr.cell? ⟨gb562, 0, none⟩ = some (.int .i64 x563000_1) := (blk_cell BK562.out 0).trans rfl; have hcz64_1 : wr.cell? ⟨gb562, 1, none⟩ = some (.string x563001_1) := (blk_cell BK562.out 1).trans rfl; have hcz64_2 : wr.cell? ⟨gb562, 2, none⟩ = some (.int .i64 x563002_1) := (blk_cell BK562.out 2).trans rfl; have hcz64_3 : wr.cell? ⟨gb562, 3, none⟩ = some (.int .i64 x563003_1) := (blk_cell BK562.out 3).trans rfl; have hcz64_4 : wr.cell? ⟨gb562, 4, none⟩ = some (.int .i64 x563004_1) := (blk_cell BK562.out 4).trans rfl; have hcz64_5 : wr.cell? ⟨gb562, 5, none⟩ = some (.int .i64 x563005_1) := (blk_cell BK562.out 5).trans rfl; have hfz64_0 := blk_frozen BK562.out 0; have hfz64_1 := blk_frozen BK562.out 1; have hfz64_2 := blk_frozen BK562.out 2; have hfz64_3 := blk_frozen BK562.out 3; have hfz64_4 := blk_frozen BK562.out 4; have hfz64_5 := blk_frozen BK562.out 5
                  go_wp2
                  repeat (go_quiet (fail); try go_wp2)
                  refine bodyPost_ret (results_cell_row rfl _ _ gb562 113 #[.int .i64 0, .string (⟨#[]⟩ : ByteArray), .int .i64 0, .int .i64 0, .int .i64 a1, .int .i64 50] (0, 0) _ rfl (by (with_reducible repeat (first | refine blk_drewN ?_ _ | refine blk_drew ?_ | refine blk_alloc ?_ _)); refine blk_put (cs := #[.int .i64 0, .string (⟨#[]⟩ : ByteArray), .int .i64 0, .int .i64 0, .int .i64 a1, .int .i64 x563005_1]) ?_ 5 _ rfl; (with_reducible repeat (first | refine blk_drewN ?_ _ | refine blk_drew ?_ | refine blk_alloc ?_ _)); refine blk_put (cs := #[.int .i64 0, .string (⟨#[]⟩ : ByteArray), .int .i64 0, .int .i64 0, .int .i64 x563004_1, .int .i64 x563005_1]) ?_ 4 _ rfl; (with_reducible repeat (first | refine blk_drewN ?_ _ | refine blk_drew ?_ | refine blk_alloc ?_ _)); refine blk_put (cs := #[.int .i64 0, .string (⟨#[]⟩ : ByteArray), .int .i64 0, .int .i64 x563003_1, .int .i64 x563004_1, .int .i64 x563005_1]) ?_ 3 _ rfl; (with_reducible repeat (first | refine blk_drewN ?_ _ | refine blk_drew ?_ | refine blk_alloc ?_ _)); refine blk_put (cs := #[.int .i64 0, .string (⟨#[]⟩ : ByteArray), .int .i64 x563002_1, .int .i64 x563003_1, .int .i64 x563004_1, .int .i64 x563005_1]) ?_ 2 _ rfl; (with_reducible repeat (first | refine blk_drewN ?_ _ | refine blk_drew ?_ | refine blk_alloc ?_ _)); refine blk_put (cs := #[.int .i64 0, .string x563001_1, .int .i64 x563002_1, .int .i64 x563003_1, .int .i64 x563004_1, .int .i64 x563005_1]) ?_ 1 _ rfl; (with_reducible repeat (first | refine blk_drewN ?_ _ | refine blk_drew ?_ | refine blk_alloc ?_ _)); refine blk_put (cs := #[.int .i64 x563000_1, .string x563001_1, .int .i64 x563002_1, .int .i64 x563003_1, .int .i64 x563004_1, .int .i64 x563005_1]) ?_ 0 _ rfl; (with_reducible repeat (first | refine blk_drewN ?_ _ | refine blk_drew ?_ | refine blk_alloc ?_ _)); exact BK562.out) Tryd.underlying113 rfl (by kernel_rfl)) rfl ?_
                  exact ⟨by first | rfl | (simp [errW_none, errW_some] <;> rfl) | (simp [*, errW_none, errW_some] <;> rfl), hbT HB.out⟩
    · rw [if_neg c4] at H
      exact absurd H (by simp)
  · rw [if_neg c3] at H
    exact absurd H (by simp)

end Go.Proofs.YthmcapdakplhdaaDoor.Pr
end

/-! ## text Prx29 -/
section
namespace Go.Proofs.YthmcapdakplhdaaDoor.Pr
open Go.RowKit Go.Proofs.YthmcapdakplhdaaDoorW.PrintWords Go.Proofs.YthmcapdakplhdaaDoorW.PrintLast Go.Proofs.YthmcapdakplhdaaDoorW.PrintMore
attribute [local go_sem] max2_int min2_int max_two min_two max_three min_three max_four min_four   -- for this text's walks alone
attribute [local go_sem high] Go.Proofs.YthmcapdakplhdaaDoor.isSome_setCell
set_option maxRecDepth 100000
set_option linter.unusedVariables false
set_option linter.unusedSimpArgs false

/-! ### refrainref5_Scan: function 55 -/
def refrainref5_Scan.l0 : Nat → ByteArray → List (S44) → Int → Option ((List (S44)) × Int × Int)
  | 0, _, _, _ => none
  | k + 1, x0, x5, x6 => if x6 < (x0.size : Int) then ((refrainref5_one.f k x0 x6).bind fun bt585 => (if bt585.2.2.2.2.2 = 0 then (if x5.length < 4398046511104 then ((refrainref5_skip.f k x0 bt585.2.2.2.1).bind fun t595 => (refrainref5_Scan.l0 k x0 (x5 ++ [(⟨bt585.1, bt585.2.1, bt585.2.2.1⟩ : S44)]) t595)) else (none)) else (some (([] : List (S44)), bt585.2.2.2.2.1, bt585.2.2.2.2.2)))) else (if x5.length < 4398046511104 then (some ((x5 ++ [(⟨5, (⟨#[]⟩ : ByteArray), (x0.size : Int)⟩ : S44)]), 0, 0)) else (none))
def refrainref5_Scan.f (k : Nat) (a0 : ByteArray) : Option ((List (S44)) × Int × Int) := if (a0.size : Int) > 4096 then (some (([] : List (S44)), 0, 2)) else ((refrainref5_skip.f k a0 0).bind fun t581 => (refrainref5_Scan.l0 k a0 ([] : List (S44)) t581))
set_option maxRecDepth 100000 in
theorem refrainref5_Scan.l0_zero : ∀ y0 y1 y2, refrainref5_Scan.l0 0 y0 y1 y2 = none := fun _ _ _ => rfl
set_option maxRecDepth 100000 in
theorem refrainref5_Scan.mono_l : ∀ k, (∀ y0 y1 y2, LeO (refrainref5_Scan.l0 k y0 y1 y2) (refrainref5_Scan.l0 (k + 1) y0 y1 y2))
  | 0 => fun _ _ _ r h => by (unfold refrainref5_Scan.l0 at h; cases h)
  | k + 1 => by
    have ih0 := refrainref5_Scan.mono_l k
    · intro y0 y1 y2
      unfold refrainref5_Scan.l0
      repeat' first
      | (with_reducible exact ih0 _ _ _)
      | (with_reducible exact refrainref5_one.mono _ _ _)
      | (with_reducible exact refrainref5_skip.mono _ _ _)
      | (with_reducible exact LeO.refl _)
      | (with_reducible exact LeO.none _)
      | (with_reducible refine LeO.ite ?_ ?_)
      | (with_reducible refine LeO.bind ?_ (fun _ => ?_))
      | exact ih0 _ _ _
      | exact refrainref5_one.mono _ _ _
      | exact refrainref5_skip.mono _ _ _
      | exact LeO.none _
      | refine LeO.ite ?_ ?_
      | refine LeO.bind ?_ (fun _ => ?_)
set_option maxRecDepth 100000 in
theorem refrainref5_Scan.mono : ∀ a0 k, LeO (refrainref5_Scan.f k a0) (refrainref5_Scan.f (k + 1) a0) := by
  intro a0 k
  have ih0 := refrainref5_Scan.mono_l k
  unfold refrainref5_Scan.f
  repeat' first
      | (with_reducible exact ih0 _ _ _)
      | (with_reducible exact refrainref5_one.mono _ _ _)
      | (with_reducible exact refrainref5_skip.mono _ _ _)
      | (with_reducible exact LeO.refl _)
      | (with_reducible exact LeO.none _)
      | (with_reducible refine LeO.ite ?_ ?_)
      | (with_reducible refine LeO.bind ?_ (fun _ => ?_))
      | exact ih0 _ _ _
      | exact refrainref5_one.mono _ _ _
      | exact refrainref5_skip.mono _ _ _
      | exact LeO.none _
      | refine LeO.ite ?_ ?_
      | refine LeO.bind ?_ (fun _ => ?_)
set_option maxHeartbeats 8000000 in
set_option maxRecDepth 100000 in
theorem refrainref5_Scan.calls (k : Nat) (a0 : ByteArray) (r1 : List (S44)) (r2 : Int) (r3 : Int) (w : World) (h : refrainref5_Scan.f k a0 = some (r1, r2, r3)) :
    Calls Tryd.prog 55 #[.string a0] w fun e w' => ∃ v0_ : Value, e = .returned (.tuple #[v0_, .int .i64 r2, .int .i64 r3]) ∧ Kd.R k44 44 w' w.heap.size (fun _ => True) v0_ r1 ∧ Below w.heap.size w w' := by
  have hu113 := Tryd.underlying113
  have hu44 := Tryd.underlying44
  have HB := Aside0.mk (Below.refl w.heap.size w)
  have H : (if (a0.size : Int) > 4096 then (some (([] : List (S44)), 0, 2)) else ((refrainref5_skip.f k a0 0).bind fun t581 => (refrainref5_Scan.l0 k a0 ([] : List (S44)) t581))) = some (r1, r2, r3) := h
  clear h
  by_cases c2 : (a0.size : Int) > 4096
  · rw [if_pos c2] at H
    have c2b0 : decide (4096 < (a0.size : Int)) = true := decide_eq_true c2
    have c2b1 : decide (4096 < a0.size) = true := decide_eq_true (by omega)
    clear c2
    simp only [Option.some.injEq, Prod.mk.injEq] at H
    obtain ⟨rfl, rfl, rfl⟩ := H
    go_enter Tryd.func55, Tryd.ntmps55
    go_wp2
    repeat (go_quiet (fail); try go_wp2)
    go_ret3
    exact ⟨_, by first | rfl | (simp [errW_none, errW_some] <;> rfl) | (simp [*, errW_none, errW_some] <;> rfl), by first | exact Kd.R_nil _ _ _ _ _ | exact Kd.N_nil _ _ _ _ _ | exact Kd.V_nil _ _ _ _ _ | exact Kd.Q_nil _ _ _ _ _ | exact Kd.S_nil _ _ _ _ _, hbT HB.out⟩
  · rw [if_neg c2] at H
    have c2b0 : decide (4096 < (a0.size : Int)) = false := decide_eq_false c2
    have c2b1 : decide (4096 < a0.size) = false := decide_eq_false (by omega)
    clear c2
    replace H := Option.bind_eq_some_iff.mp H
    obtain ⟨t581, A30, H⟩ := H
    replace H : (refrainref5_Scan.l0 k a0 ([] : List (S44)) t581) = some (r1, r2, r3) := H
    have A3 := Aside0.mk A30
    clear A30
    have H' := Aside0.mk H
    clear H
    go_enter Tryd.func55, Tryd.ntmps55
    go_wp2_with (first | (go_at_call 67; (with_reducible refine (refrainref5_skip.calls k a0 0 t581 _ A3.out).mono ?_); rintro e w' ⟨rfl, ⟨nd, rfl⟩⟩; (try first | exact ⟨rfl, _, World.drewN_drewN _ _ _⟩ | exact ⟨rfl, _, Eq.trans (World.drewN_drewN _ _ _) (congrArg (World.drewN _) (Nat.add_assoc _ _ _))⟩)))
    repeat (go_quiet (first | (go_at_call 67; (with_reducible refine (refrainref5_skip.calls k a0 0 t581 _ A3.out).mono ?_); rintro e w' ⟨rfl, ⟨nd, rfl⟩⟩; (try first | exact ⟨rfl, _, World.drewN_drewN _ _ _⟩ | exact ⟨rfl, _, Eq.trans (World.drewN_drewN _ _ _) (congrArg (World.drewN _) (Nat.add_assoc _ _ _))⟩))); try go_wp2_with (first | (go_at_call 67; (with_reducible refine (refrainref5_skip.calls k a0 0 t581 _ A3.out).mono ?_); rintro e w' ⟨rfl, ⟨nd, rfl⟩⟩; (try first | exact ⟨rfl, _, World.drewN_drewN _ _ _⟩ | exact ⟨rfl, _, Eq.trans (World.drewN_drewN _ _ _) (congrArg (World.drewN _) (Nat.add_assoc _ _ _))⟩))))
    go_loopg [5, 6] k (fun kq v5 v6 w' => ∃ (x5_1 : List (S44)) (x6_1 : Int), v6 = .int .i64 x6_1 ∧ Aside0 (refrainref5_Scan.l0 kq a0 x5_1 x6_1 = some (r1, r2, r3)) ∧ Aside0 (kq ≤ k) ∧ Aside0 (Kd.R k44 44 w' w.heap.size (fun _ => True) v5 x5_1) ∧ Aside0 (Below w.heap.size w w'))
    case atStart => exact ⟨(([] : List (S44))), (t581), (by first | rfl | (simp; done) | (simp [*]; done) | (simp; unfold wrap64; omega) | (congr 1; (try rw [Bool.eq_iff_iff]); simp [List.isEmpty_iff]; done)), H', ⟨Nat.le_refl _⟩, ⟨by first | exact Kd.R_nil _ _ _ _ _ | exact Kd.N_nil _ _ _ _ _ | exact Kd.V_nil _ _ _ _ _ | exact Kd.Q_nil _ _ _ _ _ | exact Kd.S_nil _ _ _ _ _⟩, ⟨hbT HB.out⟩⟩
    case round =>
      clear H'
      try clear c2
      try clear c2b0
      try clear c2b1
      try clear p2
      obtain ⟨x5_1, x6_1, rfl, HA, HK1, HO_5, HB⟩ := hrel
      cases gk with
      | zero => (have HA2 := HA.out; clear HA; revert HA2; rw [refrainref5_Scan.l0_zero]; intro h_; cases h_)
      | succ k1 =>
        have H := HA.out
        clear HA
        simp only [refrainref5_Scan.l0] at H
        by_cases c4 : x6_1 < (a0.size : Int)
        · rw [if_pos c4] at H
          have c4b0 : decide (x6_1 < (a0.size : Int)) = true := decide_eq_true c4
          clear c4
          replace H := Option.bind_eq_some_iff.mp H
          obtain ⟨⟨t585, t586, t587, t588, t589, t590⟩, A50, H⟩ := H
          replace H : (if t590 = 0 then (if x5_1.length < 4398046511104 then ((refrainref5_skip.f k1 a0 t588).bind fun t595 => (refrainref5_Scan.l0 k1 a0 (x5_1 ++ [(⟨t585, t586, t587⟩ : S44)]) t595)) else (none)) else (some (([] : List (S44)), t589, t590))) = some (r1, r2, r3) := H
          have A5 := Aside0.mk A50
          clear A50
          by_cases c6 : t590 = 0
          · rw [if_pos c6] at H
            have c6b0 : (t590 == 0) = true := beq_iff_eq.mpr c6
            have c6b1 : (t590 != 0) = false := bne_eq_false_iff_eq.mpr c6
            clear c6
            by_cases c7 : x5_1.length < 4398046511104
            · rw [if_pos c7] at H
              have LMc7 := Aside0.mk c7
              clear c7
              obtain ⟨y592, hy592⟩ : ∃ y_ : List (S44), y_ = (x5_1 ++ [(⟨t585, t586, t587⟩ : S44)]) := ⟨_, rfl⟩
              replace H : ((refrainref5_skip.f k1 a0 t588).bind fun t595 => (refrainref5_Scan.l0 k1 a0 y592 t595)) = some (r1, r2, r3) := by first | (rw [hy592]; with_reducible exact H) | (have H2_ := (Option.bind_some _ _).symm.trans H; rw [hy592]; with_reducible exact H2_) | (have H2_ := (Option.bind_some _ _).symm.trans H; with_reducible exact H2_) | with_reducible exact H | (rw [hy592]; exact H) | exact H
              have Ny592 := Aside0.mk hy592
              clear hy592
              replace H := Option.bind_eq_some_iff.mp H
              obtain ⟨t595, A80, H⟩ := H
              replace H : (refrainref5_Scan.l0 k1 a0 y592 t595) = some (r1, r2, r3) := H
              have A8 := Aside0.mk A80
              clear A80
              have H' := Aside0.mk H
              clear H
              go_wp2_with (first | (go_at_call 68; (with_reducible refine (refrainref5_one.calls k1 a0 x6_1 t585 t586 t587 t588 t589 t590 _ A5.out).mono ?_); rintro e w9 ⟨rfl, hb⟩; replace HO_5 := Aside0.mk (Kd.R_below (by (with_reducible repeat (first | apply Kd.R_alloc | apply Kd.R_drewN | apply Kd.R_drew)); exact HO_5.out) hb); replace HB := bsA HB hb; (try clear hb); (try clear hb2); (try clear hk); (try clear hi)) | ((with_reducible refine gate_dst (N := 7) rfl ?_); refine box_event ?hg (N := 7) ?hd (cs := #[.int .i64 0, .string (⟨#[]⟩ : ByteArray), .int .i64 0, .int .i64 0, .int .i64 0, .int .i64 0]) (t := 113) ?hr ?_; (case hd => rfl); (case hg => rfl); (case hr => first | (go_simp; done) | (go_simp; rfl)); intro gb591 hg w10 hbox hb; have BK591 := Aside0.mk hbox; have GW591 := geA hg HB; have GE591 := geA hg HB; replace HO_5 := Aside0.mk (Kd.R_below (by (with_reducible repeat (first | apply Kd.R_alloc | apply Kd.R_drewN | apply Kd.R_drew)); exact HO_5.out) hb); replace HB := bsA HB hb; clear hb hbox hg; have hcz11_0 : w10.cell? ⟨gb591, 0, none⟩ = some (.int .i64 0) := (blk_cell BK591.out 0).trans rfl; have hcz11_1 : w10.cell? ⟨gb591, 1, none⟩ = some (.string (⟨#[]⟩ : ByteArray)) := (blk_cell BK591.out 1).trans rfl; have hcz11_2 : w10.cell? ⟨gb591, 2, none⟩ = some (.int .i64 0) := (blk_cell BK591.out 2).trans rfl; have hcz11_3 : w10.cell? ⟨gb591, 3, none⟩ = some (.int .i64 0) := (blk_cell BK591.out 3).trans rfl; have hcz11_4 : w10.cell? ⟨gb591, 4, none⟩ = some (.int .i64 0) := (blk_cell BK591.out 4).trans rfl; have hcz11_5 : w10.cell? ⟨gb591, 5, none⟩ = some (.int .i64 0) := (blk_cell BK591.out 5).trans rfl; have hfz11_0 := blk_frozen BK591.out 0; have hfz11_1 := blk_frozen BK591.out 1; have hfz11_2 := blk_frozen BK591.out 2; have hfz11_3 := blk_frozen BK591.out 3; have hfz11_4 := blk_frozen BK591.out 4; have hfz11_5 := blk_frozen BK591.out 5) | ((with_reducible refine gate_builtin (b := .append) (xs := #[.tmp 27, .tmp 30]) rfl ?_); at_builtin; refine Kd.R_append k44 (w0 := w) w.heap.size rfl (.tmp 27) (.tmp 30) 40 44 (.agg #[(.int .i64 0), (.string ⟨#[]⟩), (.int .i64 0)]) 32 rfl Tryd.underlying40 info44 rfl (by decide) (by omega) u5 x5_1 (⟨t585, t586, t587⟩ : S44) [.int .i64 t585, .string t586, .int .i64 t587] (fun _ => True) (fun _ => False) rfl (by first | (go_simp; done) | (go_simp; rfl)) ?aP (fun _ hk => hk.elim) ?aF ?aO ?aB ?aS ?aL ?_; (case aP => exact k44_mkM _ _ _ (⟨t585, t586, t587⟩ : S44)); (case aB => exact (hbT HB.out)); (case aF => exact (fun _ _ => trivial)); (case aO => exact (by (with_reducible repeat (first | apply Kd.R_alloc | apply Kd.R_drewN | apply Kd.R_drew)); exact Kd.R_mono (Kd.R_far (p := ⟨gb591, 5, none⟩) (Kd.R_far (p := ⟨gb591, 4, none⟩) (Kd.R_far (p := ⟨gb591, 3, none⟩) (Kd.R_far (p := ⟨gb591, 2, none⟩) (Kd.R_far (p := ⟨gb591, 1, none⟩) (Kd.R_far (p := ⟨gb591, 0, none⟩) (Kd.R_types HO_5.out BK591.out (by decide)) (fun _ hk => hk.2) (.int .i64 t585)) (fun _ hk => hk.2) (.string t586)) (fun _ hk => hk.2) (.int .i64 t587)) (fun _ hk => hk.2) (.int .i64 t588)) (fun _ hk => hk.2) (.int .i64 t589)) (fun _ hk => hk.2) (.int .i64 t590)) (fun _ hk => trivial))); (case aS => exact (below_size (hbT HB.out))); (case aL => have := LMc7.out; omega); intro v593 w12 ho hb hg hat; rw [← Ny592.out] at ho; have n0_ := Aside0.mk (blk_grown (g := gb591) (o := .cells #[.int .i64 t585, .string t586, .int .i64 t587, .int .i64 t588, .int .i64 t589, .int .i64 t590] 113 (0, 0)) (by (with_reducible repeat (first | refine blk_drewN ?_ _ | refine blk_drew ?_ | refine blk_alloc ?_ _)); refine blk_put (cs := #[.int .i64 t585, .string t586, .int .i64 t587, .int .i64 t588, .int .i64 t589, .int .i64 0]) ?_ 5 _ rfl; (with_reducible repeat (first | refine blk_drewN ?_ _ | refine blk_drew ?_ | refine blk_alloc ?_ _)); refine blk_put (cs := #[.int .i64 t585, .string t586, .int .i64 t587, .int .i64 t588, .int .i64 0, .int .i64 0]) ?_ 4 _ rfl; (with_reducible repeat (first | refine blk_drewN ?_ _ | refine blk_drew ?_ | refine blk_alloc ?_ _)); refine blk_put (cs := #[.int .i64 t585, .string t586, .int .i64 t587, .int .i64 0, .int .i64 0, .int .i64 0]) ?_ 3 _ rfl; (with_reducible repeat (first | refine blk_drewN ?_ _ | refine blk_drew ?_ | refine blk_alloc ?_ _)); refine blk_put (cs := #[.int .i64 t585, .string t586, .int .i64 0, .int .i64 0, .int .i64 0, .int .i64 0]) ?_ 2 _ rfl; (with_reducible repeat (first | refine blk_drewN ?_ _ | refine blk_drew ?_ | refine blk_alloc ?_ _)); refine blk_put (cs := #[.int .i64 t585, .string (⟨#[]⟩ : ByteArray), .int .i64 0, .int .i64 0, .int .i64 0, .int .i64 0]) ?_ 1 _ rfl; (with_reducible repeat (first | refine blk_drewN ?_ _ | refine blk_drew ?_ | refine blk_alloc ?_ _)); refine blk_put (cs := #[.int .i64 0, .string (⟨#[]⟩ : ByteArray), .int .i64 0, .int .i64 0, .int .i64 0, .int .i64 0]) ?_ 0 _ rfl; (with_reducible repeat (first | refine blk_drewN ?_ _ | refine blk_drew ?_ | refine blk_alloc ?_ _)); exact BK591.out) hg (Kd.R_ne HO_5.out BK591.out (by decide))); have n1_ := Aside0.mk (hb); have n2_ := Aside0.mk (ho); clear BK591; clear HB; clear HO_5; have BK591 := n0_; have HB := n1_; have HO594 := n2_; clear n0_ n1_ n2_; clear ho hb hg hat; have hcz13_0 : w12.cell? ⟨gb591, 0, none⟩ = some (.int .i64 t585) := (blk_cell BK591.out 0).trans rfl; have hcz13_1 : w12.cell? ⟨gb591, 1, none⟩ = some (.string t586) := (blk_cell BK591.out 1).trans rfl; have hcz13_2 : w12.cell? ⟨gb591, 2, none⟩ = some (.int .i64 t587) := (blk_cell BK591.out 2).trans rfl; have hcz13_3 : w12.cell? ⟨gb591, 3, none⟩ = some (.int .i64 t588) := (blk_cell BK591.out 3).trans rfl; have hcz13_4 : w12.cell? ⟨gb591, 4, none⟩ = some (.int .i64 t589) := (blk_cell BK591.out 4).trans rfl; have hcz13_5 : w12.cell? ⟨gb591, 5, none⟩ = some (.int .i64 t590) := (blk_cell BK591.out 5).trans rfl; have hfz13_0 := blk_frozen BK591.out 0; have hfz13_1 := blk_frozen BK591.out 1; have hfz13_2 := blk_frozen BK591.out 2; have hfz13_3 := blk_frozen BK591.out 3; have hfz13_4 := blk_frozen BK591.out 4; have hfz13_5 := blk_frozen BK591.out 5) | (go_at_call 67; (with_reducible refine (refrainref5_skip.calls k1 a0 t588 t595 _ A8.out).mono ?_); rintro e w' ⟨rfl, ⟨nd, rfl⟩⟩; (try first | exact ⟨rfl, _, World.drewN_drewN _ _ _⟩ | exact ⟨rfl, _, Eq.trans (World.drewN_drewN _ _ _) (congrArg (World.drewN _) (Nat.add_assoc _ _ _))⟩)))
              repeat (go_quiet (first | (go_at_call 68; (with_reducible refine (refrainref5_one.calls k1 a0 x6_1 t585 t586 t587 t588 t589 t590 _ A5.out).mono ?_); rintro e w9 ⟨rfl, hb⟩; replace HO_5 := Aside0.mk (Kd.R_below (by (with_reducible repeat (first | apply Kd.R_alloc | apply Kd.R_drewN | apply Kd.R_drew)); exact HO_5.out) hb); replace HB := bsA HB hb; (try clear hb); (try clear hb2); (try clear hk); (try clear hi)) | ((with_reducible refine gate_dst (N := 7) rfl ?_); refine box_event ?hg (N := 7) ?hd (cs := #[.int .i64 0, .string (⟨#[]⟩ : ByteArray), .int .i64 0, .int .i64 0, .int .i64 0, .int .i64 0]) (t := 113) ?hr ?_; (case hd => rfl); (case hg => rfl); (case hr => first | (go_simp; done) | (go_simp; rfl)); intro gb591 hg w10 hbox hb; have BK591 := Aside0.mk hbox; have GW591 := geA hg HB; have GE591 := geA hg HB; replace HO_5 := Aside0.mk (Kd.R_below (by (with_reducible repeat (first | apply Kd.R_alloc | apply Kd.R_drewN | apply Kd.R_drew)); exact HO_5.out) hb); replace HB := bsA HB hb; clear hb hbox hg; have hcz11_0 : w10.cell? ⟨gb591, 0, none⟩ = some (.int .i64 0) := (blk_cell BK591.out 0).trans rfl; have hcz11_1 : w10.cell? ⟨gb591, 1, none⟩ = some (.string (⟨#[]⟩ : ByteArray)) := (blk_cell BK591.out 1).trans rfl; have hcz11_2 : w10.cell? ⟨gb591, 2, none⟩ = some (.int .i64 0) := (blk_cell BK591.out 2).trans rfl; have hcz11_3 : w10.cell? ⟨gb591, 3, none⟩ = some (.int .i64 0) := (blk_cell BK591.out 3).trans rfl; have hcz11_4 : w10.cell? ⟨gb591, 4, none⟩ = some (.int .i64 0) := (blk_cell BK591.out 4).trans rfl; have hcz11_5 : w10.cell? ⟨gb591, 5, none⟩ = some (.int .i64 0) := (blk_cell BK591.out 5).trans rfl; have hfz11_0 := blk_frozen BK591.out 0; have hfz11_1 := blk_frozen BK591.out 1; have hfz11_2 := blk_frozen BK591.out 2; have hfz11_3 := blk_frozen BK591.out 3; have hfz11_4 := blk_frozen BK591.out 4; have hfz11_5 := blk_frozen BK591.out 5) | ((with_reducible refine gate_builtin (b := .append) (xs := #[.tmp 27, .tmp 30]) rfl ?_); at_builtin; refine Kd.R_append k44 (w0 := w) w.heap.size rfl (.tmp 27) (.tmp 30) 40 44 (.agg #[(.int .i64 0), (.string ⟨#[]⟩), (.int .i64 0)]) 32 rfl Tryd.underlying40 info44 rfl (by decide) (by omega) u5 x5_1 (⟨t585, t586, t587⟩ : S44) [.int .i64 t585, .string t586, .int .i64 t587] (fun _ => True) (fun _ => False) rfl (by first | (go_simp; done) | (go_simp; rfl)) ?aP (fun _ hk => hk.elim) ?aF ?aO ?aB ?aS ?aL ?_; (case aP => exact k44_mkM _ _ _ (⟨t585, t586, t587⟩ : S44)); (case aB => exact (hbT HB.out)); (case aF => exact (fun _ _ => trivial)); (case aO => exact (by (with_reducible repeat (first | apply Kd.R_alloc | apply Kd.R_drewN | apply Kd.R_drew)); exact Kd.R_mono (Kd.R_far (p := ⟨gb591, 5, none⟩) (Kd.R_far (p := ⟨gb591, 4, none⟩) (Kd.R_far (p := ⟨gb591, 3, none⟩) (Kd.R_far (p := ⟨gb591, 2, none⟩) (Kd.R_far (p := ⟨gb591, 1, none⟩) (Kd.R_far (p := ⟨gb591, 0, none⟩) (Kd.R_types HO_5.out BK591.out (by decide)) (fun _ hk => hk.2) (.int .i64 t585)) (fun _ hk => hk.2) (.string t586)) (fun _ hk => hk.2) (.int .i64 t587)) (fun _ hk => hk.2) (.int .i64 t588)) (fun _ hk => hk.2) (.int .i64 t589)) (fun _ hk => hk.2) (.int .i64 t590)) (fun _ hk => trivial))); (case aS => exact (below_size (hbT HB.out))); (case aL => have := LMc7.out; omega); intro v593 w12 ho hb hg hat; rw [← Ny592.out] at ho; have n0_ := Aside0.mk (blk_grown (g := gb591) (o := .cells #[.int .i64 t585, .string t586, .int .i64 t587, .int .i64 t588, .int .i64 t589, .int .i64 t590] 113 (0, 0)) (by (with_reducible repeat (first | refine blk_drewN ?_ _ | refine blk_drew ?_ | refine blk_alloc ?_ _)); refine blk_put (cs := #[.int .i64 t585, .string t586, .int .i64 t587, .int .i64 t588, .int .i64 t589, .int .i64 0]) ?_ 5 _ rfl; (with_reducible repeat (first | refine blk_drewN ?_ _ | refine blk_drew ?_ | refine blk_alloc ?_ _)); refine blk_put (cs := #[.int .i64 t585, .string t586, .int .i64 t587, .int .i64 t588, .int .i64 0, .int .i64 0]) ?_ 4 _ rfl; (with_reducible repeat (first | refine blk_drewN ?_ _ | refine blk_drew ?_ | refine blk_alloc ?_ _)); refine blk_put (cs := #[.int .i64 t585, .string t586, .int .i64 t587, .int .i64 0, .int .i64 0, .int .i64 0]) ?_ 3 _ rfl; (with_reducible repeat (first | refine blk_drewN ?_ _ | refine blk_drew ?_ | refine blk_alloc ?_ _)); refine blk_put (cs := #[.int .i64 t585, .string t586, .int .i64 0, .int .i64 0, .int .i64 0, .int .i64 0]) ?_ 2 _ rfl; (with_reducible repeat (first | refine blk_drewN ?_ _ | refine blk_drew ?_ | refine blk_alloc ?_ _)); refine blk_put (cs := #[.int .i64 t585, .string (⟨#[]⟩ : ByteArray), .int .i64 0, .int .i64 0, .int .i64 0, .int .i64 0]) ?_ 1 _ rfl; (with_reducible repeat (first | refine blk_drewN ?_ _ | refine blk_drew ?_ | refine blk_alloc ?_ _)); refine blk_put (cs := #[.int .i64 0, .string (⟨#[]⟩ : ByteArray), .int .i64 0, .int .i64 0, .int .i64 0, .int .i64 0]) ?_ 0 _ rfl; (with_reducible repeat (first | refine blk_drewN ?_ _ | refine blk_drew ?_ | refine blk_alloc ?_ _)); exact BK591.out) hg (Kd.R_ne HO_5.out BK591.out (by decide))); have n1_ := Aside0.mk (hb); have n2_ := Aside0.mk (ho); clear BK591; clear HB; clear HO_5; have BK591 := n0_; have HB := n1_; have HO594 := n2_; clear n0_ n1_ n2_; clear ho hb hg hat; have hcz13_0 : w12.cell? ⟨gb591, 0, none⟩ = some (.int .i64 t585) := (blk_cell BK591.out 0).trans rfl; have hcz13_1 : w12.cell? ⟨gb591, 1, none⟩ = some (.string t586) := (blk_cell BK591.out 1).trans rfl; have hcz13_2 : w12.cell? ⟨gb591, 2, none⟩ = some (.int .i64 t587) := (blk_cell BK591.out 2).trans rfl; have hcz13_3 : w12.cell? ⟨gb591, 3, none⟩ = some (.int .i64 t588) := (blk_cell BK591.out 3).trans rfl; have hcz13_4 : w12.cell? ⟨gb591, 4, none⟩ = some (.int .i64 t589) := (blk_cell BK591.out 4).trans rfl; have hcz13_5 : w12.cell? ⟨gb591, 5, none⟩ = some (.int .i64 t590) := (blk_cell BK591.out 5).trans rfl; have hfz13_0 := blk_frozen BK591.out 0; have hfz13_1 := blk_frozen BK591.out 1; have hfz13_2 := blk_frozen BK591.out 2; have hfz13_3 := blk_frozen BK591.out 3; have hfz13_4 := blk_frozen BK591.out 4; have hfz13_5 := blk_frozen BK591.out 5) | (go_at_call 67; (with_reducible refine (refrainref5_skip.calls k1 a0 t588 t595 _ A8.out).mono ?_); rintro e w' ⟨rfl, ⟨nd, rfl⟩⟩; (try first | exact ⟨rfl, _, World.drewN_drewN _ _ _⟩ | exact ⟨rfl, _, Eq.trans (World.drewN_drewN _ _ _) (congrArg (World.drewN _) (Nat.add_assoc _ _ _))⟩))); try go_wp2_with (first | (go_at_call 68; (with_reducible refine (refrainref5_one.calls k1 a0 x6_1 t585 t586 t587 t588 t589 t590 _ A5.out).mono ?_); rintro e w9 ⟨rfl, hb⟩; replace HO_5 := Aside0.mk (Kd.R_below (by (with_reducible repeat (first | apply Kd.R_alloc | apply Kd.R_drewN | apply Kd.R_drew)); exact HO_5.out) hb); replace HB := bsA HB hb; (try clear hb); (try clear hb2); (try clear hk); (try clear hi)) | ((with_reducible refine gate_dst (N := 7) rfl ?_); refine box_event ?hg (N := 7) ?hd (cs := #[.int .i64 0, .string (⟨#[]⟩ : ByteArray), .int .i64 0, .int .i64 0, .int .i64 0, .int .i64 0]) (t := 113) ?hr ?_; (case hd => rfl); (case hg => rfl); (case hr => first | (go_simp; done) | (go_simp; rfl)); intro gb591 hg w10 hbox hb; have BK591 := Aside0.mk hbox; have GW591 := geA hg HB; have GE591 := geA hg HB; replace HO_5 := Aside0.mk (Kd.R_below (by (with_reducible repeat (first | apply Kd.R_alloc | apply Kd.R_drewN | apply Kd.R_drew)); exact HO_5.out) hb); replace HB := bsA HB hb; clear hb hbox hg; have hcz11_0 : w10.cell? ⟨gb591, 0, none⟩ = some (.int .i64 0) := (blk_cell BK591.out 0).trans rfl; have hcz11_1 : w10.cell? ⟨gb591, 1, none⟩ = some (.string (⟨#[]⟩ : ByteArray)) := (blk_cell BK591.out 1).trans rfl; have hcz11_2 : w10.cell? ⟨gb591, 2, none⟩ = some (.int .i64 0) := (blk_cell BK591.out 2).trans rfl; have hcz11_3 : w10.cell? ⟨gb591, 3, none⟩ = some (.int .i64 0) := (blk_cell BK591.out 3).trans rfl; have hcz11_4 : w10.cell? ⟨gb591, 4, none⟩ = some (.int .i64 0) := (blk_cell BK591.out 4).trans rfl; have hcz11_5 : w10.cell? ⟨gb591, 5, none⟩ = some (.int .i64 0) := (blk_cell BK591.out 5).trans rfl; have hfz11_0 := blk_frozen BK591.out 0; have hfz11_1 := blk_frozen BK591.out 1; have hfz11_2 := blk_frozen BK591.out 2; have hfz11_3 := blk_frozen BK591.out 3; have hfz11_4 := blk_frozen BK591.out 4; have hfz11_5 := blk_frozen BK591.out 5) | ((with_reducible refine gate_builtin (b := .append) (xs := #[.tmp 27, .tmp 30]) rfl ?_); at_builtin; refine Kd.R_append k44 (w0 := w) w.heap.size rfl (.tmp 27) (.tmp 30) 40 44 (.agg #[(.int .i64 0), (.string ⟨#[]⟩), (.int .i64 0)]) 32 rfl Tryd.underlying40 info44 rfl (by decide) (by omega) u5 x5_1 (⟨t585, t586, t587⟩ : S44) [.int .i64 t585, .string t586, .int .i64 t587] (fun _ => True) (fun _ => False) rfl (by first | (go_simp; done) | (go_simp; rfl)) ?aP (fun _ hk => hk.elim) ?aF ?aO ?aB ?aS ?aL ?_; (case aP => exact k44_mkM _ _ _ (⟨t585, t586, t587⟩ : S44)); (case aB => exact (hbT HB.out)); (case aF => exact (fun _ _ => trivial)); (case aO => exact (by (with_reducible repeat (first | apply Kd.R_alloc | apply Kd.R_drewN | apply Kd.R_drew)); exact Kd.R_mono (Kd.R_far (p := ⟨gb591, 5, none⟩) (Kd.R_far (p := ⟨gb591, 4, none⟩) (Kd.R_far (p := ⟨gb591, 3, none⟩) (Kd.R_far (p := ⟨gb591, 2, none⟩) (Kd.R_far (p := ⟨gb591, 1, none⟩) (Kd.R_far (p := ⟨gb591, 0, none⟩) (Kd.R_types HO_5.out BK591.out (by decide)) (fun _ hk => hk.2) (.int .i64 t585)) (fun _ hk => hk.2) (.string t586)) (fun _ hk => hk.2) (.int .i64 t587)) (fun _ hk => hk.2) (.int .i64 t588)) (fun _ hk => hk.2) (.int .i64 t589)) (fun _ hk => hk.2) (.int .i64 t590)) (fun _ hk => trivial))); (case aS => exact (below_size (hbT HB.out))); (case aL => have := LMc7.out; omega); intro v593 w12 ho hb hg hat; rw [← Ny592.out] at ho; have n0_ := Aside0.mk (blk_grown (g := gb591) (o := .cells #[.int .i64 t585, .string t586, .int .i64 t587, .int .i64 t588, .int .i64 t589, .int .i64 t590] 113 (0, 0)) (by (with_reducible repeat (first | refine blk_drewN ?_ _ | refine blk_drew ?_ | refine blk_alloc ?_ _)); refine blk_put (cs := #[.int .i64 t585, .string t586, .int .i64 t587, .int .i64 t588, .int .i64 t589, .int .i64 0]) ?_ 5 _ rfl; (with_reducible repeat (first | refine blk_drewN ?_ _ | refine blk_drew ?_ | refine blk_alloc ?_ _)); refine blk_put (cs := #[.int .i64 t585, .string t586, .int .i64 t587, .int .i64 t588, .int .i64 0, .int .i64 0]) ?_ 4 _ rfl; (with_reducible repeat (first | refine blk_drewN ?_ _ | refine blk_drew ?_ | refine blk_alloc ?_ _)); refine blk_put (cs := #[.int .i64 t585, .string t586, .int .i64 t587, .int .i64 0, .int .i64 0, .int .i64 0]) ?_ 3 _ rfl; (with_reducible repeat (first | refine blk_drewN ?_ _ | refine blk_drew ?_ | refine blk_alloc ?_ _)); refine blk_put (cs := #[.int .i64 t585, .string t586, .int .i64 0, .int .i64 0, .int .i64 0, .int .i64 0]) ?_ 2 _ rfl; (with_reducible repeat (first | refine blk_drewN ?_ _ | refine blk_drew ?_ | refine blk_alloc ?_ _)); refine blk_put (cs := #[.int .i64 t585, .string (⟨#[]⟩ : ByteArray), .int .i64 0, .int .i64 0, .int .i64 0, .int .i64 0]) ?_ 1 _ rfl; (with_reducible repeat (first | refine blk_drewN ?_ _ | refine blk_drew ?_ | refine blk_alloc ?_ _)); refine blk_put (cs := #[.int .i64 0, .string (⟨#[]⟩ : ByteArray), .int .i64 0, .int .i64 0, .int .i64 0, .int .i64 0]) ?_ 0 _ rfl; (with_reducible repeat (first | refine blk_drewN ?_ _ | refine blk_drew ?_ | refine blk_alloc ?_ _)); exact BK591.out) hg (Kd.R_ne HO_5.out BK591.out (by decide))); have n1_ := Aside0.mk (hb); have n2_ := Aside0.mk (ho); clear BK591; clear HB; clear HO_5; have BK591 := n0_; have HB := n1_; have HO594 := n2_; clear n0_ n1_ n2_; clear ho hb hg hat; have hcz13_0 : w12.cell? ⟨gb591, 0, none⟩ = some (.int .i64 t585) := (blk_cell BK591.out 0).trans rfl; have hcz13_1 : w12.cell? ⟨gb591, 1, none⟩ = some (.string t586) := (blk_cell BK591.out 1).trans rfl; have hcz13_2 : w12.cell? ⟨gb591, 2, none⟩ = some (.int .i64 t587) := (blk_cell BK591.out 2).trans rfl; have hcz13_3 : w12.cell? ⟨gb591, 3, none⟩ = some (.int .i64 t588) := (blk_cell BK591.out 3).trans rfl; have hcz13_4 : w12.cell? ⟨gb591, 4, none⟩ = some (.int .i64 t589) := (blk_cell BK591.out 4).trans rfl; have hcz13_5 : w12.cell? ⟨gb591, 5, none⟩ = some (.int .i64 t590) := (blk_cell BK591.out 5).trans rfl; have hfz13_0 := blk_frozen BK591.out 0; have hfz13_1 := blk_frozen BK591.out 1; have hfz13_2 := blk_frozen BK591.out 2; have hfz13_3 := blk_frozen BK591.out 3; have hfz13_4 := blk_frozen BK591.out 4; have hfz13_5 := blk_frozen BK591.out 5) | (go_at_call 67; (with_reducible refine (refrainref5_skip.calls k1 a0 t588 t595 _ A8.out).mono ?_); rintro e w' ⟨rfl, ⟨nd, rfl⟩⟩; (try first | exact ⟨rfl, _, World.drewN_drewN _ _ _⟩ | exact ⟨rfl, _, Eq.trans (World.drewN_drewN _ _ _) (congrArg (World.drewN _) (Nat.add_assoc _ _ _))⟩))))
              go_roundg k1
              case measure => have := HK1.out; omega
              case rel => exact ⟨(y592), (t595), (by first | rfl | (simp; done) | (simp [*]; done) | (simp; unfold wrap64; omega) | (congr 1; (try rw [Bool.eq_iff_iff]); simp [List.isEmpty_iff]; done)), H', ⟨by have := HK1.out; omega⟩, ⟨by (with_reducible repeat (first | apply Kd.R_alloc | apply Kd.R_drewN | apply Kd.R_drew)); exact HO594.out⟩, ⟨hbT HB.out⟩⟩
            · rw [if_neg c7] at H
              exact absurd H (by simp)
          · rw [if_neg c6] at H
            have c6b0 : (t590 == 0) = false := beq_eq_false_iff_ne.mpr c6
            have c6b1 : (t590 != 0) = true := bne_iff_ne.mpr c6
            simp only [Option.some.injEq, Prod.mk.injEq] at H
            obtain ⟨rfl, rfl, rfl⟩ := H
            go_wp2_with (first | (go_at_call 68; (with_reducible refine (refrainref5_one.calls k1 a0 x6_1 t585 t586 t587 t588 t589 t590 _ A5.out).mono ?_); rintro e w14 ⟨rfl, hb⟩; replace HO_5 := Aside0.mk (Kd.R_below (by (with_reducible repeat (first | apply Kd.R_alloc | apply Kd.R_drewN | apply Kd.R_drew)); exact HO_5.out) hb); replace HB := bsA HB hb; (try clear hb); (try clear hb2); (try clear hk); (try clear hi)) | ((with_reducible refine gate_dst (N := 7) rfl ?_); refine box_event ?hg (N := 7) ?hd (cs := #[.int .i64 0, .string (⟨#[]⟩ : ByteArray), .int .i64 0, .int .i64 0, .int .i64 0, .int .i64 0]) (t := 113) ?hr ?_; (case hd => rfl); (case hg => rfl); (case hr => first | (go_simp; done) | (go_simp; rfl)); intro gb591 hg w15 hbox hb; have BK591 := Aside0.mk hbox; have GW591 := geA hg HB; have GE591 := geA hg HB; replace HO_5 := Aside0.mk (Kd.R_below (by (with_reducible repeat (first | apply Kd.R_alloc | apply Kd.R_drewN | apply Kd.R_drew)); exact HO_5.out) hb); replace HB := bsA HB hb; clear hb hbox hg; have hcz16_0 : w15.cell? ⟨gb591, 0, none⟩ = some (.int .i64 0) := (blk_cell BK591.out 0).trans rfl; have hcz16_1 : w15.cell? ⟨gb591, 1, none⟩ = some (.string (⟨#[]⟩ : ByteArray)) := (blk_cell BK591.out 1).trans rfl; have hcz16_2 : w15.cell? ⟨gb591, 2, none⟩ = some (.int .i64 0) := (blk_cell BK591.out 2).trans rfl; have hcz16_3 : w15.cell? ⟨gb591, 3, none⟩ = some (.int .i64 0) := (blk_cell BK591.out 3).trans rfl; have hcz16_4 : w15.cell? ⟨gb591, 4, none⟩ = some (.int .i64 0) := (blk_cell BK591.out 4).trans rfl; have hcz16_5 : w15.cell? ⟨gb591, 5, none⟩ = some (.int .i64 0) := (blk_cell BK591.out 5).trans rfl; have hfz16_0 := blk_frozen BK591.out 0; have hfz16_1 := blk_frozen BK591.out 1; have hfz16_2 := blk_frozen BK591.out 2; have hfz16_3 := blk_frozen BK591.out 3; have hfz16_4 := blk_frozen BK591.out 4; have hfz16_5 := blk_frozen BK591.out 5))
            repeat (go_quiet (first | (go_at_call 68; (with_reducible refine (refrainref5_one.calls k1 a0 x6_1 t585 t586 t587 t588 t589 t590 _ A5.out).mono ?_); rintro e w14 ⟨rfl, hb⟩; replace HO_5 := Aside0.mk (Kd.R_below (by (with_reducible repeat (first | apply Kd.R_alloc | apply Kd.R_drewN | apply Kd.R_drew)); exact HO_5.out) hb); replace HB := bsA HB hb; (try clear hb); (try clear hb2); (try clear hk); (try clear hi)) | ((with_reducible refine gate_dst (N := 7) rfl ?_); refine box_event ?hg (N := 7) ?hd (cs := #[.int .i64 0, .string (⟨#[]⟩ : ByteArray), .int .i64 0, .int .i64 0, .int .i64 0, .int .i64 0]) (t := 113) ?hr ?_; (case hd => rfl); (case hg => rfl); (case hr => first | (go_simp; done) | (go_simp; rfl)); intro gb591 hg w15 hbox hb; have BK591 := Aside0.mk hbox; have GW591 := geA hg HB; have GE591 := geA hg HB; replace HO_5 := Aside0.mk (Kd.R_below (by (with_reducible repeat (first | apply Kd.R_alloc | apply Kd.R_drewN | apply Kd.R_drew)); exact HO_5.out) hb); replace HB := bsA HB hb; clear hb hbox hg; have hcz16_0 : w15.cell? ⟨gb591, 0, none⟩ = some (.int .i64 0) := (blk_cell BK591.out 0).trans rfl; have hcz16_1 : w15.cell? ⟨gb591, 1, none⟩ = some (.string (⟨#[]⟩ : ByteArray)) := (blk_cell BK591.out 1).trans rfl; have hcz16_2 : w15.cell? ⟨gb591, 2, none⟩ = some (.int .i64 0) := (blk_cell BK591.out 2).trans rfl; have hcz16_3 : w15.cell? ⟨gb591, 3, none⟩ = some (.int .i64 0) := (blk_cell BK591.out 3).trans rfl; have hcz16_4 : w15.cell? ⟨gb591, 4, none⟩ = some (.int .i64 0) := (blk_cell BK591.out 4).trans rfl; have hcz16_5 : w15.cell? ⟨gb591, 5, none⟩ = some (.int .i64 0) := (blk_cell BK591.out 5).trans rfl; have hfz16_0 := blk_frozen BK591.out 0; have hfz16_1 := blk_frozen BK591.out 1; have hfz16_2 := blk_frozen BK591.out 2; have hfz16_3 := blk_frozen BK591.out 3; have hfz16_4 := blk_frozen BK591.out 4; have hfz16_5 := blk_frozen BK591.out 5)); try go_wp2_with (first | (go_at_call 68; (with_reducible refine (refrainref5_one.calls k1 a0 x6_1 t585 t586 t587 t588 t589 t590 _ A5.out).mono ?_); rintro e w14 ⟨rfl, hb⟩; replace HO_5 := Aside0.mk (Kd.R_below (by (with_reducible repeat (first | apply Kd.R_alloc | apply Kd.R_drewN | apply Kd.R_drew)); exact HO_5.out) hb); replace HB := bsA HB hb; (try clear hb); (try clear hb2); (try clear hk); (try clear hi)) | ((with_reducible refine gate_dst (N := 7) rfl ?_); refine box_event ?hg (N := 7) ?hd (cs := #[.int .i64 0, .string (⟨#[]⟩ : ByteArray), .int .i64 0, .int .i64 0, .int .i64 0, .int .i64 0]) (t := 113) ?hr ?_; (case hd => rfl); (case hg => rfl); (case hr => first | (go_simp; done) | (go_simp; rfl)); intro gb591 hg w15 hbox hb; have BK591 := Aside0.mk hbox; have GW591 := geA hg HB; have GE591 := geA hg HB; replace HO_5 := Aside0.mk (Kd.R_below (by (with_reducible repeat (first | apply Kd.R_alloc | apply Kd.R_drewN | apply Kd.R_drew)); exact HO_5.out) hb); replace HB := bsA HB hb; clear hb hbox hg; have hcz16_0 : w15.cell? ⟨gb591, 0, none⟩ = some (.int .i64 0) := (blk_cell BK591.out 0).trans rfl; have hcz16_1 : w15.cell? ⟨gb591, 1, none⟩ = some (.string (⟨#[]⟩ : ByteArray)) := (blk_cell BK591.out 1).trans rfl; have hcz16_2 : w15.cell? ⟨gb591, 2, none⟩ = some (.int .i64 0) := (blk_cell BK591.out 2).trans rfl; have hcz16_3 : w15.cell? ⟨gb591, 3, none⟩ = some (.int .i64 0) := (blk_cell BK591.out 3).trans rfl; have hcz16_4 : w15.cell? ⟨gb591, 4, none⟩ = some (.int .i64 0) := (blk_cell BK591.out 4).trans rfl; have hcz16_5 : w15.cell? ⟨gb591, 5, none⟩ = some (.int .i64 0) := (blk_cell BK591.out 5).trans rfl; have hfz16_0 := blk_frozen BK591.out 0; have hfz16_1 := blk_frozen BK591.out 1; have hfz16_2 := blk_frozen BK591.out 2; have hfz16_3 := blk_frozen BK591.out 3; have hfz16_4 := blk_frozen BK591.out 4; have hfz16_5 := blk_frozen BK591.out 5)))
            go_ret3
            exact ⟨_, by first | rfl | (simp [errW_none, errW_some] <;> rfl) | (simp [*, errW_none, errW_some] <;> rfl), by first | exact Kd.R_nil _ _ _ _ _ | exact Kd.N_nil _ _ _ _ _ | exact Kd.V_nil _ _ _ _ _ | exact Kd.Q_nil _ _ _ _ _ | exact Kd.S_nil _ _ _ _ _, hbT HB.out⟩
        · rw [if_neg c4] at H
          have c4b0 : decide (x6_1 < (a0.size : Int)) = false := decide_eq_false c4
          clear c4
          by_cases c17 : x5_1.length < 4398046511104
          · rw [if_pos c17] at H
            have LMc17 := Aside0.mk c17
            clear c17
            obtain ⟨y582, hy582⟩ : ∃ y_ : List (S44), y_ = (x5_1 ++ [(⟨5, (⟨#[]⟩ : ByteArray), (a0.size : Int)⟩ : S44)]) := ⟨_, rfl⟩
            replace H : (some (y582, 0, 0)) = some (r1, r2, r3) := by first | (rw [hy582]; with_reducible exact H) | (have H2_ := (Option.bind_some _ _).symm.trans H; rw [hy582]; with_reducible exact H2_) | (have H2_ := (Option.bind_some _ _).symm.trans H; with_reducible exact H2_) | with_reducible exact H | (rw [hy582]; exact H) | exact H
            have Ny582 := Aside0.mk hy582
            clear hy582
            simp only [Option.some.injEq, Prod.mk.injEq] at H
            obtain ⟨rfl, rfl, rfl⟩ := H
            go_wp2_with (first | ((with_reducible refine gate_builtin (b := .append) (xs := #[.tmp 36, .tmp 40]) rfl ?_); at_builtin; refine Kd.R_append k44 (w0 := w) w.heap.size rfl (.tmp 36) (.tmp 40) 40 44 (.agg #[(.int .i64 0), (.string ⟨#[]⟩), (.int .i64 0)]) 32 rfl Tryd.underlying40 info44 rfl (by decide) (by omega) u5 x5_1 (⟨5, (⟨#[]⟩ : ByteArray), (a0.size : Int)⟩ : S44) [.int .i64 5, .string (⟨#[]⟩ : ByteArray), .int .i64 (a0.size : Int)] (fun _ => True) (fun _ => False) rfl rfl ?aP (fun _ hk => hk.elim) ?aF ?aO ?aB ?aS ?aL ?_; (case aP => exact k44_mkM _ _ _ (⟨5, (⟨#[]⟩ : ByteArray), (a0.size : Int)⟩ : S44)); (case aB => exact (hbT HB.out)); (case aF => exact (fun _ _ => trivial)); (case aO => exact (by (with_reducible repeat (first | apply Kd.R_alloc | apply Kd.R_drewN | apply Kd.R_drew)); exact HO_5.out)); (case aS => exact (below_size (hbT HB.out))); (case aL => have := LMc17.out; omega); intro v583 w18 ho hb hg hat; rw [← Ny582.out] at ho; have n0_ := Aside0.mk (hb); have n1_ := Aside0.mk (ho); clear HB; clear HO_5; have HB := n0_; have HO584 := n1_; clear n0_ n1_; clear ho hb hg hat))
            repeat (go_quiet (first | ((with_reducible refine gate_builtin (b := .append) (xs := #[.tmp 36, .tmp 40]) rfl ?_); at_builtin; refine Kd.R_append k44 (w0 := w) w.heap.size rfl (.tmp 36) (.tmp 40) 40 44 (.agg #[(.int .i64 0), (.string ⟨#[]⟩), (.int .i64 0)]) 32 rfl Tryd.underlying40 info44 rfl (by decide) (by omega) u5 x5_1 (⟨5, (⟨#[]⟩ : ByteArray), (a0.size : Int)⟩ : S44) [.int .i64 5, .string (⟨#[]⟩ : ByteArray), .int .i64 (a0.size : Int)] (fun _ => True) (fun _ => False) rfl rfl ?aP (fun _ hk => hk.elim) ?aF ?aO ?aB ?aS ?aL ?_; (case aP => exact k44_mkM _ _ _ (⟨5, (⟨#[]⟩ : ByteArray), (a0.size : Int)⟩ : S44)); (case aB => exact (hbT HB.out)); (case aF => exact (fun _ _ => trivial)); (case aO => exact (by (with_reducible repeat (first | apply Kd.R_alloc | apply Kd.R_drewN | apply Kd.R_drew)); exact HO_5.out)); (case aS => exact (below_size (hbT HB.out))); (case aL => have := LMc17.out; omega); intro v583 w18 ho hb hg hat; rw [← Ny582.out] at ho; have n0_ := Aside0.mk (hb); have n1_ := Aside0.mk (ho); clear HB; clear HO_5; have HB := n0_; have HO584 := n1_; clear n0_ n1_; clear ho hb hg hat)); try go_wp2_with (first | ((with_reducible refine gate_builtin (b := .append) (xs := #[.tmp 36, .tmp 40]) rfl ?_); at_builtin; refine Kd.R_append k44 (w0 := w) w.heap.size rfl (.tmp 36) (.tmp 40) 40 44 (.agg #[(.int .i64 0), (.string ⟨#[]⟩), (.int .i64 0)]) 32 rfl Tryd.underlying40 info44 rfl (by decide) (by omega) u5 x5_1 (⟨5, (⟨#[]⟩ : ByteArray), (a0.size : Int)⟩ : S44) [.int .i64 5, .string (⟨#[]⟩ : ByteArray), .int .i64 (a0.size : Int)] (fun _ => True) (fun _ => False) rfl rfl ?aP (fun _ hk => hk.elim) ?aF ?aO ?aB ?aS ?aL ?_; (case aP => exact k44_mkM _ _ _ (⟨5, (⟨#[]⟩ : ByteArray), (a0.size : Int)⟩ : S44)); (case aB => exact (hbT HB.out)); (case aF => exact (fun _ _ => trivial)); (case aO => exact (by (with_reducible repeat (first | apply Kd.R_alloc | apply Kd.R_drewN | apply Kd.R_drew)); exact HO_5.out)); (case aS => exact (below_size (hbT HB.out))); (case aL => have := LMc17.out; omega); intro v583 w18 ho hb hg hat; rw [← Ny582.out] at ho; have n0_ := Aside0.mk (hb); have n1_ := Aside0.mk (ho); clear HB; clear HO_5; have HB := n0_; have HO584 := n1_; clear n0_ n1_; clear ho hb hg hat)))
            go_ret3
            exact ⟨_, by first | rfl | (simp [errW_none, errW_some] <;> rfl) | (simp [*, errW_none, errW_some] <;> rfl), by (with_reducible repeat (first | apply Kd.R_alloc | apply Kd.R_drewN | apply Kd.R_drew)); exact HO584.out, hbT HB.out⟩
          · rw [if_neg c17] at H
            exact absurd H (by simp)

/-! ### refrainref5_among: function 71 -/
/-! ### refrainref5_can: function 69 -/
end Go.Proofs.YthmcapdakplhdaaDoor.Pr
end

/-! ## text Prx30 -/
section
namespace Go.Proofs.YthmcapdakplhdaaDoor.Pr
open Go.RowKit Go.Proofs.YthmcapdakplhdaaDoorW.PrintWords Go.Proofs.YthmcapdakplhdaaDoorW.PrintLast Go.Proofs.YthmcapdakplhdaaDoorW.PrintMore
attribute [local go_sem] max2_int min2_int max_two min_two max_three min_three max_four min_four   -- for this text's walks alone
attribute [local go_sem high] Go.Proofs.YthmcapdakplhdaaDoor.isSome_setCell
set_option maxRecDepth 100000
set_option linter.unusedVariables false
set_option linter.unusedSimpArgs false

/-! ### refrainref5_quoted: function 70 -/
end Go.Proofs.YthmcapdakplhdaaDoor.Pr
end

/-! ## text Prx31 -/
section
namespace Go.Proofs.YthmcapdakplhdaaDoor.Pr
open Go.RowKit Go.Proofs.YthmcapdakplhdaaDoorW.PrintWords Go.Proofs.YthmcapdakplhdaaDoorW.PrintLast Go.Proofs.YthmcapdakplhdaaDoorW.PrintMore
attribute [local go_sem] max2_int min2_int max_two min_two max_three min_three max_four min_four   -- for this text's walks alone
attribute [local go_sem high] Go.Proofs.YthmcapdakplhdaaDoor.isSome_setCell
set_option maxRecDepth 100000
set_option linter.unusedVariables false
set_option linter.unusedSimpArgs false

/-! ### refrainref5_Spell: function 57 -/
/-! ### refrainref5_words: function 72 -/
/-! ### refrainref5_Word: function 59 -/
/-! ### refrainlaw5_scanned: function 28 -/
def refrainlaw5_scanned.f (k : Nat) (a0 : ByteArray) : Option ((List (S44)) × (List (S44)) × Bool) := (token_Scan.f k a0).bind fun bt687 => ((refrainref5_Scan.f k a0).bind fun bt692 => (if bt687.2.2 = bt692.2.2 then (if bt687.2.1 = bt692.2.1 then ((refrainlaw5_eqToks.f k bt687.1 bt692.1).bind fun t697 => (some (bt687.1, bt692.1, t697))) else (some (bt687.1, bt692.1, false))) else (some (bt687.1, bt692.1, false))))
set_option maxRecDepth 100000 in
theorem refrainlaw5_scanned.mono : ∀ a0 k, LeO (refrainlaw5_scanned.f k a0) (refrainlaw5_scanned.f (k + 1) a0) := by
  intro a0 k
  unfold refrainlaw5_scanned.f
  repeat' first
      | (with_reducible exact refrainlaw5_eqToks.mono _ _ _)
      | (with_reducible exact refrainref5_Scan.mono _ _)
      | (with_reducible exact token_Scan.mono _ _)
      | (with_reducible exact LeO.refl _)
      | (with_reducible exact LeO.none _)
      | (with_reducible refine LeO.ite ?_ ?_)
      | (with_reducible refine LeO.bind ?_ (fun _ => ?_))
      | exact refrainlaw5_eqToks.mono _ _ _
      | exact refrainref5_Scan.mono _ _
      | exact token_Scan.mono _ _
      | exact LeO.none _
      | refine LeO.ite ?_ ?_
      | refine LeO.bind ?_ (fun _ => ?_)
set_option maxHeartbeats 8000000 in
set_option maxRecDepth 100000 in
theorem refrainlaw5_scanned.calls (k : Nat) (a0 : ByteArray) (r1 : List (S44)) (r2 : List (S44)) (r3 : Bool) (w : World) (HL_LErr : Aside0 (LErr w)) (h : refrainlaw5_scanned.f k a0 = some (r1, r2, r3)) :
    Calls Tryd.prog 28 #[.string a0] w fun e w' => ∃ v0_ v1_ : Value, e = .returned (.tuple #[v0_, v1_, .bool r3]) ∧ Kd.R k44 44 w' w.heap.size (fun k_ => some k_ ≠ (v1_ : Value).ownBlock) v0_ r1 ∧ Kd.R k44 44 w' w.heap.size (fun k_ => some k_ ≠ (v0_ : Value).ownBlock) v1_ r2 ∧ Below w.heap.size w w' := by
  have HB := Aside0.mk (Below.refl w.heap.size w)
  have H : ((token_Scan.f k a0).bind fun bt687 => ((refrainref5_Scan.f k a0).bind fun bt692 => (if bt687.2.2 = bt692.2.2 then (if bt687.2.1 = bt692.2.1 then ((refrainlaw5_eqToks.f k bt687.1 bt692.1).bind fun t697 => (some (bt687.1, bt692.1, t697))) else (some (bt687.1, bt692.1, false))) else (some (bt687.1, bt692.1, false))))) = some (r1, r2, r3) := h
  clear h
  replace H := Option.bind_eq_some_iff.mp H
  obtain ⟨⟨t687, t688, t689⟩, A20, H⟩ := H
  replace H : ((refrainref5_Scan.f k a0).bind fun bt692 => (if t689 = bt692.2.2 then (if t688 = bt692.2.1 then ((refrainlaw5_eqToks.f k t687 bt692.1).bind fun t697 => (some (t687, bt692.1, t697))) else (some (t687, bt692.1, false))) else (some (t687, bt692.1, false)))) = some (r1, r2, r3) := H
  have A2 := Aside0.mk A20
  clear A20
  replace H := Option.bind_eq_some_iff.mp H
  obtain ⟨⟨t692, t693, t694⟩, A30, H⟩ := H
  replace H : (if t689 = t694 then (if t688 = t693 then ((refrainlaw5_eqToks.f k t687 t692).bind fun t697 => (some (t687, t692, t697))) else (some (t687, t692, false))) else (some (t687, t692, false))) = some (r1, r2, r3) := H
  have A3 := Aside0.mk A30
  clear A30
  by_cases c4 : t689 = t694
  · rw [if_pos c4] at H
    have c4b0 : (t689 == t694) = true := beq_iff_eq.mpr c4
    have c4b1 : (t689 != t694) = false := bne_eq_false_iff_eq.mpr c4
    clear c4
    by_cases c5 : t688 = t693
    · rw [if_pos c5] at H
      have c5b0 : (t688 == t693) = true := beq_iff_eq.mpr c5
      have c5b1 : (t688 != t693) = false := bne_eq_false_iff_eq.mpr c5
      clear c5
      replace H := Option.bind_eq_some_iff.mp H
      obtain ⟨t697, A60, H⟩ := H
      replace H : (some (t687, t692, t697)) = some (r1, r2, r3) := H
      have A6 := Aside0.mk A60
      clear A60
      simp only [Option.some.injEq, Prod.mk.injEq] at H
      obtain ⟨rfl, rfl, rfl⟩ := H
      go_enter Tryd.func28, Tryd.ntmps28
      go_wp2_with (first | ((with_reducible refine gate_callee (f := 21) rfl ?_); refine goesT (some 13) Tryd.func21 #[.string a0] ?_; (with_reducible refine (token_Scan.calls k a0 t687 t688 t689 _ ?side1 A2.out).mono ?_); (case side1 => first | (with_reducible exact HL_LErr) | exact ⟨LErr.below HL_LErr.out (hbT HB.out)⟩); rintro e w7 ⟨v690, rfl, ho0, hb⟩; refine ⟨_, rfl, ?_⟩; have HO691 := Aside0.mk (Kd.R_lower ho0 (below_size (hbT HB.out))); replace HB := bsA HB hb; (try clear hb); (try clear hb2); (try clear hk); (try clear hi); (try clear ho0)) | ((with_reducible refine gate_callee (f := 55) rfl ?_); refine goesT (some 19) Tryd.func55 #[.string a0] ?_; (with_reducible refine (refrainref5_Scan.calls k a0 t692 t693 t694 _ A3.out).mono ?_); rintro e w8 ⟨v695, rfl, ho0, hb⟩; refine ⟨_, rfl, ?_⟩; have HO696 := Aside0.mk (Kd.R_lower (Kd.R_new' ho0 (Kd.R_lt (by (with_reducible repeat (first | apply Kd.R_alloc | apply Kd.R_drewN | apply Kd.R_drew)); exact HO691.out))) (below_size (hbT HB.out))); replace HO691 := Aside0.mk (Kd.R_elder' (by (with_reducible repeat (first | apply Kd.R_alloc | apply Kd.R_drewN | apply Kd.R_drew)); exact HO691.out) (Kd.R_base ho0) hb); replace HB := bsA HB hb; (try clear hb); (try clear hb2); (try clear hk); (try clear hi); (try clear ho0); obtain ⟨Ao9, co9, eo9⟩ := Kd.R_slice HO691.out; subst eo9; obtain ⟨Ao10, co10, eo10⟩ := Kd.R_slice HO696.out; subst eo10) | (go_at_call 32; (with_reducible refine (refrainlaw5_eqToks.calls k _ _ t687 _ _ t692 t697 _ ?side1 ?side2 ?side3 ?side4 A6.out).mono ?_); (case side1 => repeat (first | exact (Kd.R_reads' HO691.out).2.2 | (with_reducible refine Kd.C_alloc ?_ _) | (with_reducible refine Kd.C_drewN ?_ _) | (with_reducible refine Kd.C_drew ?_))); (case side2 => exact (Kd.R_reads' HO691.out).2.1); (case side3 => repeat (first | exact (Kd.R_reads' HO696.out).2.2 | (with_reducible refine Kd.C_alloc ?_ _) | (with_reducible refine Kd.C_drewN ?_ _) | (with_reducible refine Kd.C_drew ?_))); (case side4 => exact (Kd.R_reads' HO696.out).2.1); rintro e w' ⟨rfl, ⟨nd, rfl⟩⟩))
      go_ret3
      exact ⟨_, _, by first | rfl | (simp [errW_none, errW_some] <;> rfl) | (simp [*, errW_none, errW_some] <;> rfl), by (with_reducible repeat (first | apply Kd.R_alloc | apply Kd.R_drewN | apply Kd.R_drew)); exact Kd.R_mono HO691.out (fun _ hk => hk.2), by (with_reducible repeat (first | apply Kd.R_alloc | apply Kd.R_drewN | apply Kd.R_drew)); exact Kd.R_mono HO696.out (fun _ hk => hk.2), hbT HB.out⟩
    · rw [if_neg c5] at H
      have c5b0 : (t688 == t693) = false := beq_eq_false_iff_ne.mpr c5
      have c5b1 : (t688 != t693) = true := bne_iff_ne.mpr c5
      simp only [Option.some.injEq, Prod.mk.injEq] at H
      obtain ⟨rfl, rfl, rfl⟩ := H
      go_enter Tryd.func28, Tryd.ntmps28
      go_wp2_with (first | ((with_reducible refine gate_callee (f := 21) rfl ?_); refine goesT (some 13) Tryd.func21 #[.string a0] ?_; (with_reducible refine (token_Scan.calls k a0 t687 t688 t689 _ ?side1 A2.out).mono ?_); (case side1 => first | (with_reducible exact HL_LErr) | exact ⟨LErr.below HL_LErr.out (hbT HB.out)⟩); rintro e w11 ⟨v690, rfl, ho0, hb⟩; refine ⟨_, rfl, ?_⟩; have HO691 := Aside0.mk (Kd.R_lower ho0 (below_size (hbT HB.out))); replace HB := bsA HB hb; (try clear hb); (try clear hb2); (try clear hk); (try clear hi); (try clear ho0)) | ((with_reducible refine gate_callee (f := 55) rfl ?_); refine goesT (some 19) Tryd.func55 #[.string a0] ?_; (with_reducible refine (refrainref5_Scan.calls k a0 t692 t693 t694 _ A3.out).mono ?_); rintro e w12 ⟨v695, rfl, ho0, hb⟩; refine ⟨_, rfl, ?_⟩; have HO696 := Aside0.mk (Kd.R_lower (Kd.R_new' ho0 (Kd.R_lt (by (with_reducible repeat (first | apply Kd.R_alloc | apply Kd.R_drewN | apply Kd.R_drew)); exact HO691.out))) (below_size (hbT HB.out))); replace HO691 := Aside0.mk (Kd.R_elder' (by (with_reducible repeat (first | apply Kd.R_alloc | apply Kd.R_drewN | apply Kd.R_drew)); exact HO691.out) (Kd.R_base ho0) hb); replace HB := bsA HB hb; (try clear hb); (try clear hb2); (try clear hk); (try clear hi); (try clear ho0)))
      go_ret3
      exact ⟨_, _, by first | rfl | (simp [errW_none, errW_some] <;> rfl) | (simp [*, errW_none, errW_some] <;> rfl), by (with_reducible repeat (first | apply Kd.R_alloc | apply Kd.R_drewN | apply Kd.R_drew)); exact Kd.R_mono HO691.out (fun _ hk => hk.2), by (with_reducible repeat (first | apply Kd.R_alloc | apply Kd.R_drewN | apply Kd.R_drew)); exact Kd.R_mono HO696.out (fun _ hk => hk.2), hbT HB.out⟩
  · rw [if_neg c4] at H
    have c4b0 : (t689 == t694) = false := beq_eq_false_iff_ne.mpr c4
    have c4b1 : (t689 != t694) = true := bne_iff_ne.mpr c4
    simp only [Option.some.injEq, Prod.mk.injEq] at H
    obtain ⟨rfl, rfl, rfl⟩ := H
    go_enter Tryd.func28, Tryd.ntmps28
    go_wp2_with (first | ((with_reducible refine gate_callee (f := 21) rfl ?_); refine goesT (some 13) Tryd.func21 #[.string a0] ?_; (with_reducible refine (token_Scan.calls k a0 t687 t688 t689 _ ?side1 A2.out).mono ?_); (case side1 => first | (with_reducible exact HL_LErr) | exact ⟨LErr.below HL_LErr.out (hbT HB.out)⟩); rintro e w13 ⟨v690, rfl, ho0, hb⟩; refine ⟨_, rfl, ?_⟩; have HO691 := Aside0.mk (Kd.R_lower ho0 (below_size (hbT HB.out))); replace HB := bsA HB hb; (try clear hb); (try clear hb2); (try clear hk); (try clear hi); (try clear ho0)) | ((with_reducible refine gate_callee (f := 55) rfl ?_); refine goesT (some 19) Tryd.func55 #[.string a0] ?_; (with_reducible refine (refrainref5_Scan.calls k a0 t692 t693 t694 _ A3.out).mono ?_); rintro e w14 ⟨v695, rfl, ho0, hb⟩; refine ⟨_, rfl, ?_⟩; have HO696 := Aside0.mk (Kd.R_lower (Kd.R_new' ho0 (Kd.R_lt (by (with_reducible repeat (first | apply Kd.R_alloc | apply Kd.R_drewN | apply Kd.R_drew)); exact HO691.out))) (below_size (hbT HB.out))); replace HO691 := Aside0.mk (Kd.R_elder' (by (with_reducible repeat (first | apply Kd.R_alloc | apply Kd.R_drewN | apply Kd.R_drew)); exact HO691.out) (Kd.R_base ho0) hb); replace HB := bsA HB hb; (try clear hb); (try clear hb2); (try clear hk); (try clear hi); (try clear ho0)))
    go_ret3
    exact ⟨_, _, by first | rfl | (simp [errW_none, errW_some] <;> rfl) | (simp [*, errW_none, errW_some] <;> rfl), by (with_reducible repeat (first | apply Kd.R_alloc | apply Kd.R_drewN | apply Kd.R_drew)); exact Kd.R_mono HO691.out (fun _ hk => hk.2), by (with_reducible repeat (first | apply Kd.R_alloc | apply Kd.R_drewN | apply Kd.R_drew)); exact Kd.R_mono HO696.out (fun _ hk => hk.2), hbT HB.out⟩

end Go.Proofs.YthmcapdakplhdaaDoor.Pr
end

/-! ## text PrxTF -/
section
/- The law TokenFresh, walked: it answers true where scanned does. -/
namespace Go.Proofs.YthmcapdakplhdaaDoor.Pr
open Go Go.RowKit Go.Proofs.YthmcapdakplhdaaDoorW.PrintWords Go.Proofs.YthmcapdakplhdaaDoorW.PrintLast Go.Proofs.YthmcapdakplhdaaDoorW.PrintMore
set_option maxRecDepth 100000
set_option linter.unusedVariables false
set_option linter.unusedSimpArgs false
theorem R_dd {W : World} {base : Nat} {ok : Nat → Prop} {v : Value} {xs : List S44} (h : Kd.R k44 44 W base ok v xs) (n : Nat) : Kd.R k44 44 (W.drewN n) base ok v xs := R_same h (fun _ _ => rfl)
/-- What is asked of a text. -/
def ScanOk (s : ByteArray) : Prop := ∃ k r, r.length ≤ 4097 ∧ refrainlaw5_scanned.f k s = some (r, r, true)
set_option maxHeartbeats 16000000 in
theorem law5_TokenFresh (q : Nat) (A0 : Option Addr) (c0 : Nat) (x : List ByteArray) (w : World) (hr0 : Kd.C Kd.string w A0 x.length x) (hc0 : x.length ≤ c0) (hx : x.length ≤ 1048576) (hS : ∀ s ∈ x, ScanOk s) (hE : ∀ r : List S44, r.length ≤ 4097 → ∃ k, refrainlaw5_eqToks.f k r r = some true) (hb : refrainlaw5_begun.f q = some true)
    (hL : Aside0 (LErr w)) (hG : Aside0 (LG0 w)) :
    Calls Tryd.prog 12 #[.slice A0 x.length c0] w fun e w' => e = .returned (.bool true) ∧ Below w.heap.size w w' := by
  have HR0 := Aside0.mk hr0
  have HS := Aside0.mk hS
  have HBG := Aside0.mk hb
  have HL : Aside0 (∀ W', Below w.heap.size w W' → LErr W') := ⟨fun W' h => hL.out.below h⟩
  have hmem : ∀ i : Nat, i < x.length → rdOf ByteArray.empty x (i : Int) ∈ x := by
    intro i hlt
    show x.getD _ _ ∈ x
    rw [Int.toNat_natCast, List.getD_eq_getElem?_getD, List.getElem?_eq_getElem hlt]
    exact List.getElem_mem _
  have HMEM := Aside0.mk hmem
  have HE := Aside0.mk hE
  clear hr0 hS hb hmem hE
  go_enter Tryd.func12, Tryd.ntmps12
  go_upto_region 4 with (go_at_call 26; refine (refrainlaw5_begun.calls q true _ hL hG HBG.out).mono ?_; rintro e w1 ⟨rfl, hb⟩; have HB := Aside0.mk hb; clear hb)
  obtain ⟨gb, hgb⟩ : ∃ gb, gb = w1.heap.size := ⟨_, rfl⟩
  have hgbb : w.heap.size ≤ gb := by rw [hgb]; exact HB.out.size
  have hBk : Bk (w1.alloc (.cells #[.slice none 0 0, .int .i64 0] 64)) gb w.heap.size (.slice none 0 0) [] 0 := ⟨by rw [hgb]; exact blk_new _ _, hgbb, World.ownsRow_nil _ _ 40 1, fun i h hi => by simp at hi, rfl⟩
  have HK2 := Aside0.mk hBk
  have HB2 : Aside0 (Below w.heap.size w (w1.alloc (.cells #[.slice none 0 0, .int .i64 0] 64))) := ⟨below_alloc HB.out _⟩
  rw [← hgb]
  clear hBk hgbb HB hgb
  generalize w1.alloc (.cells #[.slice none 0 0, .int .i64 0] 64) = w2 at *
  go_wp2
  go_loopg [4] x.length (fun gk v4 wx => ∃ (i : Nat) (vb : Value) (hsb : List Value) (mb : Int), v4 = .int .i64 i ∧ i + gk = x.length ∧ Aside0 (Bk wx gb w.heap.size vb hsb mb) ∧ Aside0 (Below w.heap.size w wx) ∧ Aside0 (hsb.length ≤ 2 * i))
  case atStart => exact ⟨0, _, _, _, rfl, by omega, HK2, HB2, ⟨Nat.le_refl _⟩⟩
  case round =>
    clear HK2 HB2
    obtain ⟨i, vb, hsb, mb, rfl, hik, HK, HB, HN⟩ := hrel
    by_cases hlt : i < x.length
    · have hd : decide ((i : Int) < (x.length : Int)) = true := decide_eq_true (by omega)
      have p1 : 0 ≤ (i : Int) := by omega
      have q1 : (i : Int) < (x.length : Int) := by omega
      obtain ⟨ad, e1, hx0⟩ := Kd.at_string (Kd.C_below HR0.out HB.out) (i : Int) p1 q1
      cases e1
      rw [Int.toNat_natCast] at hx0
      have hso := HS.out _ (HMEM.out i hlt)
      generalize rdOf ByteArray.empty x (i : Int) = s at *
      obtain ⟨k1, r, hrl, hsc⟩ := hso
      have HSC := Aside0.mk hsc
      have HRL := Aside0.mk hrl
      have HLo : Aside0 (LErr wr) := ⟨HL.out _ HB.out⟩
      have HSZ : Aside0 (w.heap.size ≤ wr.heap.size) := ⟨HB.out.size⟩
      have HI : Aside0 (i < x.length) := ⟨hlt⟩
      replace p1 := eq_true p1
      replace q1 := eq_true q1
      clear hsc hrl
      go_upto_region 11 with (first | (go_at_call 28; go_loud (refine (refrainlaw5_scanned.calls k1 s r r true wr HLo HSC.out).mono ?_; rintro e w5 ⟨v1, v2, rfl, hv1, _, hb5⟩; have HV1 := Aside0.mk hv1; have HB5 := Aside0.mk (HB.out.trans (hb5.mono HSZ.out)); have HK5 := Aside0.mk (HK.out.below hb5); obtain ⟨A1, c1, e1⟩ := Kd.R_slice hv1; subst e1; have HB5b := Aside0.mk hb5; clear hv1 hb5)) | (go_at_call 29; go_loud (refine (book_take gb w.heap.size vb hsb mb A1 c1 r w5 HK5.out (Kd.R_mono (Kd.R_lower HV1.out HSZ.out) (fun _ _ => trivial)) (fun h hh k hk e => by have h7 := HK.out.R; obtain ⟨j, hj⟩ := List.mem_iff_getElem?.1 hh; obtain ⟨n, hn⟩ := h7 j h hj; have h8 := R_blk hn hk; have h9 := R_low HV1.out e; omega) (by have := HN.out; have := HI.out; omega) (by have := HRL.out; omega)).mono ?_; rintro e w6 ⟨rfl, vb', hsb', mb', hK6, hl6, hb6, _⟩; have HK6 := Aside0.mk hK6; have HB6 := Aside0.mk (HB5.out.trans hb6); have HN6 : Aside0 (hsb'.length ≤ 2 * (i + 1)) := ⟨by have := HN.out; omega⟩; clear hK6 hl6 hb6)))
      clear HV1 HK5 HB5 HB5b
      have hmz : ∀ z : Int, z = 0 → (z == 0) = true := fun z h => beq_iff_eq.2 h
      by_cases hm : i % 64 = 0
      focus
        have g1 : ((i : Int) % 64 == 0) = true := beq_iff_eq.2 (by omega)
        have g2 : (Int.tmod (i : Int) 64 == 0) = true := beq_iff_eq.2 (by show (((i % 64 : Nat) : Int)) = 0; omega)
        clear hmz hm
        go_wp2_with (go_at_call 30; go_loud (refine (book_whole gb w.heap.size vb' hsb' mb' w6 HK6.out.H HK6.out.V HK6.out.R (by have := HN6.out; have := HI.out; omega)).mono ?_; rintro e w7 ⟨rfl, n7, rfl⟩))
        go_roundg (x.length - (i + 1))
        case measure => have := HI.out; omega
        case rel => exact ⟨i + 1, vb', hsb', mb', rfl, by have := HI.out; omega, ⟨HK6.out.below (pw_below_drewN (Below.refl _ _) _)⟩, ⟨pw_below_drewN HB6.out _⟩, HN6⟩
      · have g1 : ((i : Int) % 64 == 0) = false := beq_eq_false_iff_ne.2 (by omega)
        have g2 : (Int.tmod (i : Int) 64 == 0) = false := beq_eq_false_iff_ne.2 (by show ¬ (((i % 64 : Nat) : Int)) = 0; omega)
        clear hmz hm
        go_wp2
        go_roundg (x.length - (i + 1))
        case measure => have := HI.out; omega
        case rel => exact ⟨i + 1, vb', hsb', mb', rfl, by have := HI.out; omega, HK6, HB6, HN6⟩
    · have hd : decide ((i : Int) < (x.length : Int)) = false := decide_eq_false (by omega)
      have HN0 : Aside0 (hsb.length ≤ 2097152) := ⟨by have := HN.out; omega⟩
      clear HN
      go_upto_region 16 with (fail)
      obtain ⟨N, hNN⟩ : ∃ N, N = wr.heap.size := ⟨_, rfl⟩
      have hC3 : ((wr.alloc (.cells #[.slice none 0 0, .int .i64 0] 64)).alloc (.cells #[.slice none 0 0, .int .i64 0] 64)).heap[N]? = some (.cells #[.slice none 0 0, .int .i64 0] 64 (0, 0)) := by rw [hNN]; exact blk_alloc (blk_new _ _) _
      have hD3 : ((wr.alloc (.cells #[.slice none 0 0, .int .i64 0] 64)).alloc (.cells #[.slice none 0 0, .int .i64 0] 64)).heap[N + 1]? = some (.cells #[.slice none 0 0, .int .i64 0] 64 (0, 0)) := by
        have := blk_new (wr.alloc (.cells #[.slice none 0 0, .int .i64 0] 64)) (.cells #[.slice none 0 0, .int .i64 0] 64)
        rw [World.size_alloc, ← hNN] at this; exact this
      have hB3 : Below N wr ((wr.alloc (.cells #[.slice none 0 0, .int .i64 0] 64)).alloc (.cells #[.slice none 0 0, .int .i64 0] 64)) := by
        rw [hNN]; exact below_alloc (below_alloc (Below.refl _ _) _) _
      rw [show wr.heap.size + 1 = N + 1 by rw [hNN], show wr.heap.size = N from hNN.symm]
      have HNN := Aside0.mk hNN
      have HC3 := Aside0.mk hC3
      have HD3 := Aside0.mk hD3
      have HB3 := Aside0.mk hB3
      have HWN : Aside0 (w.heap.size ≤ N) := ⟨by rw [hNN]; exact HB.out.size⟩
      clear hC3 hD3 hB3 hNN hd hlt hik
      generalize ((wr.alloc (.cells #[.slice none 0 0, .int .i64 0] 64)).alloc (.cells #[.slice none 0 0, .int .i64 0] 64)) = w3 at *
      obtain ⟨wN, rfl⟩ : ∃ wN : World, wN = wr := ⟨_, rfl⟩
      go_wp2
      go_loopg [8, 9, 12] (2 * x.length) (fun gk v8 v9 v12 wx => ∃ (i : Nat) (gs ws : List Value) (md : Int), v12 = .int .i64 i ∧ i + gk = 2 * x.length ∧ Aside0 (Kp wx N v8 v9 gs ws) ∧ Aside0 (Below N wN wx) ∧ Aside0 (wx.heap[N]? = some (.cells #[.slice none 0 0, .int .i64 0] 64 (0, 0))) ∧ Aside0 (wx.heap[N + 1]? = some (.cells #[.slice none 0 0, .int .i64 md] 64 (0, 0))) ∧ Aside0 (gs.length ≤ i))
      case atStart => exact ⟨0, [], [], 0, rfl, by omega, ⟨Kp.nil _ _⟩, HB3, HC3, HD3, ⟨Nat.le_refl _⟩⟩
      case round =>
        clear HC3 HD3 HB3
        obtain ⟨i, gs, ws, md, rfl, hik, HKp, HB7, HC7, HD7, HN7⟩ := hrel
        obtain ⟨Ag, cg, eg⟩ := own_slice HKp.out.G
        subst eg
        obtain ⟨Aw, cw, ew⟩ := own_slice HKp.out.U
        subst ew
        by_cases hlt : i < 2 * x.length
        · have hd : decide ((i : Int) < 2 * (x.length : Int)) = true := decide_eq_true (by omega)
          have hq0 : Int.tdiv (i : Int) 2 = ((i / 2 : Nat) : Int) := half i
          have hql : i / 2 < x.length := by omega
          have hil : i ≤ 2097152 := by omega
          have HI : Aside0 (i < 2 * x.length) := ⟨hlt⟩
          have HIK := Aside0.mk hik
          obtain ⟨j, hj⟩ : ∃ j, i / 2 = j := ⟨_, rfl⟩
          rw [hj] at hq0 hql
          clear hj hlt hik
          have p1 : 0 ≤ (j : Int) := by omega
          have q1 : (j : Int) < (x.length : Int) := by omega
          obtain ⟨ad, e1, hx0⟩ := Kd.at_string (Kd.C_below (Kd.C_below HR0.out HB.out) (HB7.out.mono (by rw [HNN.out]; exact Nat.le_refl _))) (j : Int) p1 q1
          cases e1
          rw [Int.toNat_natCast] at hx0
          have hso := HS.out _ (HMEM.out j hql)
          generalize rdOf ByteArray.empty x (j : Int) = s at *
          obtain ⟨k1, r, hrl, hsc⟩ := hso
          have HSC := Aside0.mk hsc
          have HRL := Aside0.mk hrl
          have HB8 : Aside0 (Below w.heap.size w wr) := ⟨HB.out.trans (HB7.out.mono HWN.out)⟩
          have HLo : Aside0 (LErr wr) := ⟨HL.out _ HB8.out⟩
          have HSZ : Aside0 (N ≤ wr.heap.size) := ⟨by have := HB7.out.size; have := HNN.out; omega⟩
          replace p1 := eq_true p1
          replace q1 := eq_true q1
          clear hsc
          go_upto_region 23 with (first | (go_at_call 28; go_loud (refine (refrainlaw5_scanned.calls k1 s r r true wr HLo HSC.out).mono ?_; rintro e w5 ⟨v1, v2, rfl, hv1, hv2, hb5⟩; have HV1 := Aside0.mk hv1; have HV2 := Aside0.mk hv2; have HB5 := Aside0.mk (HB7.out.trans (hb5.mono HSZ.out)); have HK5 := Aside0.mk (HKp.out.below hb5); have HC5 := Aside0.mk (blk_below HC7.out hb5); have HD5 := Aside0.mk (blk_below HD7.out hb5); obtain ⟨A1, c1, e1⟩ := Kd.R_slice hv1; subst e1; obtain ⟨A2, c2, e2⟩ := Kd.R_slice hv2; subst e2; have HSZ5 := Aside0.mk hb5.size; clear hv1 hv2 hb5)) | (go_at_call 31; go_loud (refine (book_over (N + 1) (.slice none 0 0) md _ w5 HD5.out).mono ?_; rintro e w6 ⟨o, m', rfl, rfl⟩)))
          all_goals
            have HK6 : Aside0 (Kp (w5.setCell ⟨N + 1, 1, none⟩ (.int .i64 m')) N (.slice Ag gs.length cg) (.slice Aw ws.length cw) gs ws) := ⟨HK5.out.move (g := N + 1) ⟨_, HD5.out⟩ (fun k h1 h2 => Below.heap_setCell _ _ _ k h2)⟩
            have HC6 : Aside0 ((w5.setCell ⟨N + 1, 1, none⟩ (.int .i64 m')).heap[N]? = some (.cells #[.slice none 0 0, .int .i64 0] 64 (0, 0))) := ⟨(Below.heap_setCell _ _ _ N (by show N ≠ N + 1; omega)).trans HC5.out⟩
            have HD6 : Aside0 ((w5.setCell ⟨N + 1, 1, none⟩ (.int .i64 m')).heap[N + 1]? = some (.cells #[.slice none 0 0, .int .i64 m'] 64 (0, 0))) := ⟨blk_put HD5.out 1 _ rfl⟩
            have HB6 : Aside0 (Below N wN (w5.setCell ⟨N + 1, 1, none⟩ (.int .i64 m'))) := ⟨Below.setCell HB5.out (by show N ≤ N + 1; omega) _⟩
            have hv1 : Kd.R k44 44 w5 N (fun _ => True) (.slice A1 r.length c1) r := Kd.R_mono (Kd.R_lower HV1.out HSZ.out) (fun _ _ => trivial)
            have hv2 : Kd.R k44 44 w5 N (fun _ => True) (.slice A2 r.length c2) r := Kd.R_mono (Kd.R_lower HV2.out HSZ.out) (fun _ _ => trivial)
            have HV1b : Aside0 (Kd.R k44 44 (w5.setCell ⟨N + 1, 1, none⟩ (.int .i64 m')) N (fun _ => True) (.slice A1 r.length c1) r) := ⟨R_same hv1 (fun k hk => Below.heap_setCell _ _ _ k (fun e => R_type hv1 HD5.out (by decide) (by have e9 : k = N + 1 := e; rw [← e9]; exact hk)))⟩
            have HV2b : Aside0 (Kd.R k44 44 (w5.setCell ⟨N + 1, 1, none⟩ (.int .i64 m')) N (fun _ => True) (.slice A2 r.length c2) r) := ⟨R_same hv2 (fun k hk => Below.heap_setCell _ _ _ k (fun e => R_type hv2 HD5.out (by decide) (by have e9 : k = N + 1 := e; rw [← e9]; exact hk)))⟩
            have HLG : Aside0 (∀ h ∈ gs, ∀ k, h.ownBlock = some k → (Value.slice A1 r.length c1).ownBlock ≠ some k) := ⟨fun h hh k hk e => by
              obtain ⟨jj, hjj⟩ := List.mem_iff_getElem?.1 hh
              have hjl : jj < gs.length := by
                rcases Nat.lt_or_ge jj gs.length with h1 | h1
                · exact h1
                · rw [List.getElem?_eq_none h1] at hjj; cases hjj
              obtain ⟨r', _, h7, _⟩ := HKp.out.R jj h _ hjj (List.getElem?_eq_getElem (by rw [← HKp.out.L]; exact hjl))
              have h8 := R_blk h7 hk
              have h9 := R_low HV1.out e
              omega⟩
            have HS6 : Aside0 (N ≤ (w5.setCell ⟨N + 1, 1, none⟩ (.int .i64 m')).heap.size) := ⟨by rw [World.size_setCell]; have := HSZ.out; have := HSZ5.out; omega⟩
            clear hv1 hv2 HV1 HV2 HB5 HK5 HC5 HD5 HSZ5 HKp HB7 HC7 HD7 HSC HLo HSZ HB8 hx0
            generalize (w5.setCell ⟨N + 1, 1, none⟩ (.int .i64 m')) = w6 at *
          rotate_left
          focus
            go_roundg (2 * x.length - (i + 1))
            case measure => have := HI.out; have := HIK.out; omega
            case rel => exact ⟨i + 1, gs, ws, m', rfl, by have := HI.out; omega, HK6, HB6, HC6, HD6, ⟨by have := HN7.out; omega⟩⟩
          go_wp2_with (first | ((with_reducible refine gate_builtin (b := .append) (xs := #[.tmp 79, .tmp 81]) rfl ?_); at_builtin; go_loud (refine print_append_cells (w0 := w6) N rfl (.tmp 79) (.tmp 81) 62 40 (.slice none 0 0) 1 24 rfl Tryd.underlying62 info40 rfl (by decide) (by omega) (.slice Ag gs.length cg) gs.length gs [.slice A1 r.length c1] rfl rfl rfl (by intro u hu; simp only [List.mem_cons, List.not_mem_nil, or_false] at hu; subst hu; rfl) HK6.out.G (Below.refl _ _) HS6.out (by have := HN7.out; omega) ?_; intro v7 w7 ho hb hg hat; obtain ⟨A7, c7, e7⟩ := own_slice ho; subst e7; have HO7 := Aside0.mk ho; have HB7 := Aside0.mk hb; have HG7 := Aside0.mk hg; have HAT7 := Aside0.mk hat; have HS7 := Aside0.mk hg.size; have HU7 : Aside0 (w7.ownsRow N 40 1 (.slice Aw ws.length cw) ws.length ws) := ⟨V_move HK6.out.U (fun k hk h1 => hg.block k hk (fun e => HK6.out.V k e.symm h1))⟩; clear ho hb hg hat)) | ((with_reducible refine gate_builtin (b := .append) (xs := #[.tmp 83, .tmp 85]) rfl ?_); at_builtin; go_loud (refine print_append_cells (w0 := w7) N rfl (.tmp 83) (.tmp 85) 62 40 (.slice none 0 0) 1 24 rfl Tryd.underlying62 info40 rfl (by decide) (by omega) (.slice Aw ws.length cw) ws.length ws [.slice A2 r.length c2] rfl rfl rfl (by intro u hu; simp only [List.mem_cons, List.not_mem_nil, or_false] at hu; subst hu; rfl) HU7.out (Below.refl _ _) (Nat.le_trans HS6.out HS7.out) (by have := HN7.out; have := HK6.out.L; omega) ?_; intro v8 w8 ho hb hg hat; have HO8 := Aside0.mk ho; have HB8 := Aside0.mk hb; have HG8 := Aside0.mk hg; have HAT8 := Aside0.mk hat; have HS8 := Aside0.mk hg.size; clear ho hb hg hat)))
          have hC7 : ∀ (n : Nat) (cs : Array Value), w6.heap[n]? = some (.cells cs 64 (0, 0)) → w8.heap[n]? = some (.cells cs 64 (0, 0)) := fun n cs hn => by
            have h7 : w7.heap[n]? = some (.cells cs 64 (0, 0)) := (HG7.out.block n (blk_lt hn) (fun e => V_type HK6.out.G hn (by decide) e.symm)).trans hn
            exact (HG8.out.block n (blk_lt h7) (fun e => V_type HU7.out h7 (by decide) e.symm)).trans h7
          have hKp : Kp w8 N (.slice A7 (gs.length + 1) c7) v8 (gs ++ [.slice A1 r.length c1]) (ws ++ [.slice A2 r.length c2]) := Kp_push HK6.out HRL.out HV1b.out HV2b.out HLG.out HO7.out HG7.out HAT7.out HO8.out HG8.out HAT8.out
          have hB8 : Below N wN w8 := HB6.out.trans (HB7.out.trans HB8.out)
          have hC8 := hC7 N _ HC6.out
          have hD8 := hC7 (N + 1) _ HD6.out
          have HF := Aside0.mk (And.intro hKp (And.intro hB8 (And.intro hC8 hD8)))
          clear hC7 hKp hB8 hC8 hD8 HG7 HG8 HAT7 HAT8 HU7 HO7 HO8 HB7 HB8
          go_roundg (2 * x.length - (i + 1))
          case measure => have := HI.out; have := HIK.out; omega
          case rel => exact ⟨i + 1, gs ++ [.slice A1 r.length c1], ws ++ [.slice A2 r.length c2], m', rfl, by have := HI.out; omega, ⟨HF.out.1⟩, ⟨HF.out.2.1⟩, ⟨HF.out.2.2.1⟩, ⟨HF.out.2.2.2⟩, ⟨by rw [List.length_append]; have := HN7.out; simp only [List.length_cons, List.length_nil]; omega⟩⟩
        · have hd : decide ((i : Int) < 2 * (x.length : Int)) = false := decide_eq_false (by omega)
          have HNG : Aside0 (gs.length ≤ 2097152) := ⟨by have := HN7.out; omega⟩
          have hgl : gs.length ≤ 2097152 := HNG.out
          clear HN7 hlt hik
          go_wp2
          obtain ⟨w4, hw4⟩ : ∃ w4 : World, w4 = wr := ⟨_, rfl⟩
          have HK8 : Aside0 (Kp w4 N (.slice Ag gs.length cg) (.slice Aw ws.length cw) gs ws) := ⟨by rw [hw4]; exact HKp.out⟩
          have HB8 : Aside0 (Below N wN w4) := ⟨by rw [hw4]; exact HB7.out⟩
          have HC8 : Aside0 (w4.heap[N]? = some (.cells #[.slice none 0 0, .int .i64 0] 64 (0, 0))) := ⟨by rw [hw4]; exact HC7.out⟩
          rw [← hw4]
          clear HKp HB7 HC7 HD7 hw4
          go_loopg [16] gs.length (fun gk v16 wx => ∃ j : Nat, v16 = .int .i64 j ∧ j + gk = gs.length ∧ Aside0 (Kp wx N (.slice Ag gs.length cg) (.slice Aw ws.length cw) gs ws) ∧ Aside0 (Below N wN wx) ∧ Aside0 (wx.heap[N]? = some (.cells #[.slice none 0 0, .int .i64 0] 64 (0, 0))))
          case atStart => exact ⟨0, rfl, by omega, HK8, HB8, HC8⟩
          case round =>
            clear HK8 HB8 HC8
            clear w4
            obtain ⟨j, rfl, hjk, HK8, HB8, HC8⟩ := hrel
            obtain ⟨w4, rfl⟩ : ∃ w4 : World, w4 = wr := ⟨_, rfl⟩
            by_cases hlt : j < gs.length
            · have hd2 : decide ((j : Int) < (gs.length : Int)) = true := decide_eq_true (by omega)
              have hlw : j < ws.length := by rw [← HK8.out.L]; exact hlt
              obtain ⟨h, hh⟩ : ∃ h, gs[j]? = some h := ⟨_, List.getElem?_eq_getElem hlt⟩
              obtain ⟨u, hu⟩ : ∃ u, ws[j]? = some u := ⟨_, List.getElem?_eq_getElem hlw⟩
              obtain ⟨b1, c1', e1, _, hx1⟩ := own_at HK8.out.G hh
              injection e1 with eA eN eC
              clear eN
              subst eA
              subst eC
              obtain ⟨b2, c2', e2, _, hx2⟩ := own_at HK8.out.U hu
              injection e2 with eA eN eC
              clear eN
              subst eA
              subst eC
              obtain ⟨r, hrl, hR1, hR2⟩ := HK8.out.R j h u hh hu
              obtain ⟨A1, c1, e1⟩ := Kd.R_slice hR1
              subst e1
              obtain ⟨A2, c2, e2⟩ := Kd.R_slice hR2
              subst e2
              obtain ⟨k3, hk3⟩ := HE.out r hrl
              have HK3 := Aside0.mk hk3
              have HR1 := Aside0.mk hR1
              have HR2 := Aside0.mk hR2
              have p1 : 0 ≤ (j : Int) := by omega
              have q1 : (j : Int) < (gs.length : Int) := by omega
              have q2 : (j : Int) < (ws.length : Int) := by omega
              replace p1 := eq_true p1
              replace q1 := eq_true q1
              replace q2 := eq_true q2
              have HJ := Aside0.mk (And.intro hjk hlt)
              have hjl : j ≤ 2097152 := by omega
              clear hh hu hk3 hR1 hR2 hlt hlw hjk
              go_wp2
              go_quiet ((go_at_call 32; go_loud (refine Calls.quiet_of (v := .bool true) ((refrainlaw5_eqToks.calls k3 A1 c1 r A2 c2 r true _ (Kd.R_reads' (R_dd HR1.out _)).2.2 (Kd.R_reads' HR1.out).2.1 (Kd.R_reads' (R_dd HR2.out _)).2.2 (Kd.R_reads' HR2.out).2.1 HK3.out).mono ?_); rintro e w2 ⟨rfl, ⟨n3, rfl⟩⟩; exact ⟨rfl, _, rfl⟩)))
              go_wp2
              go_roundg (gs.length - (j + 1))
              case measure => have := HJ.out; omega
              case rel => exact ⟨j + 1, rfl, by have := HJ.out; omega, ⟨HK8.out.below (pw_below_drewN (Below.refl _ _) _)⟩, ⟨pw_below_drewN HB8.out _⟩, ⟨HC8.out⟩⟩
            · have hd2 : decide ((j : Int) < (gs.length : Int)) = false := decide_eq_false (by omega)
              have HBc : Aside0 (Bk w4 N N (.slice none 0 0) [] 0) := ⟨⟨HC8.out, Nat.le_refl _, World.ownsRow_nil _ _ 40 1, fun i h hi => by simp at hi, rfl⟩⟩
              obtain ⟨N4, hN4⟩ : ∃ N4, N4 = w4.heap.size := ⟨_, rfl⟩
              have HG4 : Aside0 (∀ h ∈ gs, ∀ k, h.ownBlock = some k → k < N4) := ⟨fun h hh k hk => by
                obtain ⟨jj, hjj⟩ := List.mem_iff_getElem?.1 hh
                have hjl : jj < gs.length := by
                  rcases Nat.lt_or_ge jj gs.length with h1 | h1
                  · exact h1
                  · rw [List.getElem?_eq_none h1] at hjj; cases hjj
                obtain ⟨r', _, h7, _⟩ := HK8.out.R jj h _ hjj (List.getElem?_eq_getElem (by rw [← HK8.out.L]; exact hjl))
                have h8 := R_blk h7 hk
                omega⟩
              have HR4 : Aside0 (∀ (jj : Nat) (h : Value), 0 ≤ jj → gs[jj]? = some h → ∃ r : List S44, r.length ≤ 4097 ∧ Kd.R k44 44 w4 N (fun _ => True) h r) := ⟨fun jj h _ hjj => by
                have hjl : jj < gs.length := by
                  rcases Nat.lt_or_ge jj gs.length with h1 | h1
                  · exact h1
                  · rw [List.getElem?_eq_none h1] at hjj; cases hjj
                obtain ⟨r', h6, h7, _⟩ := HK8.out.R jj h _ hjj (List.getElem?_eq_getElem (by rw [← HK8.out.L]; exact hjl))
                exact ⟨r', h6, h7⟩⟩
              have HV4 : Aside0 (∀ k, (Value.slice Ag gs.length cg).ownBlock = some k → k < N4) := ⟨fun k hk => by have := V_blk HK8.out.G hk; omega⟩
              have HDD := Aside0.mk HK8.out.D
              have HO4 := Aside0.mk HK8.out.G
              have HS4 : Aside0 (N4 ≤ w4.heap.size) := ⟨by omega⟩
              clear hjk hN4
              go_wp2
              go_loopg [17] gs.length (fun gk v17 wx => ∃ (i2 : Nat) (vc : Value) (hsc : List Value) (mc : Int), v17 = .int .i64 i2 ∧ i2 + gk = gs.length ∧ Aside0 (Bk wx N N vc hsc mc) ∧ Aside0 (Below N wN wx) ∧ Aside0 (wx.ownsRow N 40 1 (.slice Ag gs.length cg) gs.length gs) ∧
                Aside0 (∀ (jj : Nat) (h : Value), i2 ≤ jj → gs[jj]? = some h → ∃ r : List S44, r.length ≤ 4097 ∧ Kd.R k44 44 wx N (fun _ => True) h r) ∧ Aside0 (hsc.length ≤ 2 * i2) ∧
                Aside0 (∀ h ∈ hsc, ∀ k, h.ownBlock = some k → N4 ≤ k ∨ ∃ (jj : Nat) (hj : Value), jj < i2 ∧ gs[jj]? = some hj ∧ hj.ownBlock = some k) ∧ Aside0 (∀ k, vc.ownBlock = some k → N4 ≤ k) ∧ Aside0 (N4 ≤ wx.heap.size))
              case atStart => exact ⟨0, _, _, _, rfl, by omega, HBc, HB8, HO4, HR4, ⟨Nat.le_refl _⟩, ⟨fun h hh => by simp at hh⟩, ⟨fun k hk => by simp [Value.ownBlock] at hk⟩, HS4⟩
              case round =>
                clear HBc HB8 HO4 HR4 HS4 HC8 HK8
                clear w4
                obtain ⟨i2, vc, hsc, mc, rfl, hik2, HBc, HB8, HO4, HR4, HN8, HM8, HV8, HS8⟩ := hrel
                by_cases hlt : i2 < gs.length
                · have hd2 : decide ((i2 : Int) < (gs.length : Int)) = true := decide_eq_true (by omega)
                  obtain ⟨h, hh⟩ : ∃ h, gs[i2]? = some h := ⟨_, List.getElem?_eq_getElem hlt⟩
                  obtain ⟨b1, c1', e1, _, hx1⟩ := own_at HO4.out hh
                  injection e1 with eA eN eC
                  clear eN
                  subst eA
                  subst eC
                  obtain ⟨r, hrl, hR1⟩ := HR4.out i2 h (Nat.le_refl _) hh
                  obtain ⟨A1, c1, e1⟩ := Kd.R_slice hR1
                  subst e1
                  have HR1 := Aside0.mk hR1
                  have HRL := Aside0.mk hrl
                  have HHH := Aside0.mk hh
                  have p1 : 0 ≤ (i2 : Int) := by omega
                  have q1 : (i2 : Int) < (gs.length : Int) := by omega
                  have hjl : i2 ≤ 2097152 := by omega
                  have HJ := Aside0.mk (And.intro hik2 hlt)
                  replace p1 := eq_true p1
                  replace q1 := eq_true q1
                  have HDI : Aside0 (∀ h ∈ hsc, ∀ k, h.ownBlock = some k → (Value.slice A1 r.length c1).ownBlock ≠ some k) := ⟨fun h h7 k hk e => by
                    have h1 := HG4.out _ (List.mem_of_getElem? hh) k e
                    rcases HM8.out h h7 k hk with h2 | ⟨jj, hj, h2, h3, h4⟩
                    · omega
                    · exact HDD.out jj i2 hj _ (by omega) h3 hh k h4 e⟩
                  clear hh hR1 hrl hlt hik2
                  go_wp2_with (go_at_call 29; go_loud (refine (book_take N N vc hsc mc A1 c1 r wr HBc.out HR1.out HDI.out (by have := HN8.out; omega) (by have := HRL.out; omega)).mono ?_; rintro e w6 ⟨rfl, vc', hsc', mc', hK6, hl6, hb6, hf6, hm6, hv6⟩; have HK6 := Aside0.mk hK6; have HL6 := Aside0.mk hl6; have HB6 := Aside0.mk hb6; have HF6 := Aside0.mk hf6; have HM6 := Aside0.mk hm6; have HV6 := Aside0.mk hv6; clear hK6 hl6 hb6 hf6 hm6 hv6))
                  have hvc : ∀ k, k < N4 → vc.ownBlock ≠ some k := fun k hk e => by have := HV8.out k e; omega
                  have hO6 : w6.ownsRow N 40 1 (.slice (some ⟨b1, 0, none⟩) gs.length cg) gs.length gs := V_move HO4.out (fun k hk h1 => HF6.out k hk (fun e => V_type HO4.out HBc.out.H (by decide) (by rw [← e]; exact h1)) (hvc k (HV4.out k h1)) (fun e => R_V_ne HR1.out HO4.out e h1))
                  have hR6 : ∀ (jj : Nat) (h : Value), i2 + 1 ≤ jj → gs[jj]? = some h → ∃ r : List S44, r.length ≤ 4097 ∧ Kd.R k44 44 w6 N (fun _ => True) h r := fun jj h hjj hh => by
                    obtain ⟨r', h1, h2⟩ := HR4.out jj h (by omega) hh
                    exact ⟨r', h1, R_same h2 (fun k hk => HF6.out k (R_blk h2 hk) (fun e => R_type h2 HBc.out.H (by decide) (by rw [← e]; exact hk)) (hvc k (HG4.out h (List.mem_of_getElem? hh) k hk)) (fun e => HDD.out i2 jj _ h (by omega) HHH.out hh k e hk))⟩
                  have hM6 : ∀ h ∈ hsc', ∀ k, h.ownBlock = some k → N4 ≤ k ∨ ∃ (jj : Nat) (hj : Value), jj < i2 + 1 ∧ gs[jj]? = some hj ∧ hj.ownBlock = some k := fun h hh k hk => by
                    rcases HM6.out h hh with h1 | h1
                    · rcases HM8.out h h1 k hk with h2 | ⟨jj, hj, h2, h3, h4⟩
                      · exact .inl h2
                      · exact .inr ⟨jj, hj, by omega, h3, h4⟩
                    · rcases h1 k hk with h2 | h2
                      · exact .inr ⟨i2, _, by omega, HHH.out, h2⟩
                      · exact .inl (Nat.le_trans HS8.out h2)
                  have hV6 : ∀ k, vc'.ownBlock = some k → N4 ≤ k := fun k hk => by
                    rcases HV6.out with h1 | ⟨k', h1, h2⟩
                    · exact HV8.out k (by rw [← h1]; exact hk)
                    · have : k' = k := Option.some.inj (h1.symm.trans hk)
                      have := HS8.out
                      omega
                  have HF := Aside0.mk (And.intro hO6 (And.intro hR6 (And.intro hM6 hV6)))
                  clear hvc hO6 hR6 hM6 hV6 HF6 HM6 HV6
                  go_roundg (gs.length - (i2 + 1))
                  case measure => have := HJ.out; omega
                  case rel => exact ⟨i2 + 1, vc', hsc', mc', rfl, by have := HJ.out; omega, HK6, ⟨HB8.out.trans HB6.out⟩, ⟨HF.out.1⟩, ⟨HF.out.2.1⟩, ⟨by have := HL6.out; have := HN8.out; omega⟩, ⟨HF.out.2.2.1⟩, ⟨HF.out.2.2.2⟩, ⟨Nat.le_trans HS8.out HB6.out.size⟩⟩
                · have hd2 : decide ((i2 : Int) < (gs.length : Int)) = false := decide_eq_false (by omega)
                  have HKb : Aside0 (Bk wr gb w.heap.size vb hsb mb) := ⟨HK.out.below (by have h7 := HB8.out; rwa [HNN.out] at h7)⟩
                  have HNc : Aside0 (hsc.length ≤ 4194304) := ⟨by have := HN8.out; omega⟩
                  have HWc : Aside0 (∀ (n7 i : Nat) (h : Value), hsc[i]? = some h → ∃ n : Nat, Kd.R k44 44 (wr.drewN n7) N (fun _ => True) h (List.replicate n (mkB (i / 2)))) := ⟨fun n7 i h hi => by
                    obtain ⟨n, hn⟩ := HBc.out.R i h hi
                    exact ⟨n, R_dd hn _⟩⟩
                  clear HN8 hik2
                  have tok1 : True := trivial
                  go_wp2_with (first | (go_at_call 30; have _t := tok1; clear _t tok1; refine (book_whole gb w.heap.size vb hsb mb wr HKb.out.H HKb.out.V HKb.out.R (Nat.le_trans HN0.out (by decide))).mono ?_; rintro e w7 ⟨rfl, n7, rfl⟩; have HBd := Aside0.mk (HBc.out.below (pw_below_drewN (Below.refl _ _) n7)); have tok2 : True := trivial) | (go_at_call 30; have _t := tok2; clear _t tok2; go_loud (refine (book_whole N N vc hsc mc (wr.drewN n7) HBd.out.H HBd.out.V HBd.out.R (Nat.le_trans HNc.out (by decide))).mono ?_; rintro e w8 ⟨rfl, n8, rfl⟩)))
                  go_ret
                  exact ⟨rfl, pw_below_drewN (HB.out.trans (HB8.out.mono HWN.out)) _⟩
open Classical in
/-- What it answers, where every text is scanned as the document says. -/
noncomputable def refrainlaw5_TokenFresh.f (_k : Nat) (x : List ByteArray) : Option Bool :=
  if x.length ≤ 1048576 ∧ (∀ s ∈ x, ScanOk s) ∧ (∀ r : List S44, r.length ≤ 4097 → ∃ k, refrainlaw5_eqToks.f k r r = some true) ∧ (∃ q, refrainlaw5_begun.f q = some true) then some true else none
theorem refrainlaw5_TokenFresh.calls (k : Nat) (A0 : Option Addr) (c0 : Nat) (l0 : List (ByteArray)) (r : Bool) (w : World) (hr0 : Kd.C Kd.string w A0 l0.length l0) (hc0 : l0.length ≤ c0) (HL_LErr : Aside0 (LErr w)) (HL_LG0 : Aside0 (LG0 w)) (h : refrainlaw5_TokenFresh.f k l0 = some r) :
    Calls Tryd.prog 12 #[.slice A0 l0.length c0] w fun e w' => e = .returned (.bool r) ∧ Below w.heap.size w w' := by
  unfold refrainlaw5_TokenFresh.f at h
  split at h
  · rename_i hb
    obtain rfl := Option.some.inj h
    obtain ⟨h1, h2, h3, q, h4⟩ := hb
    exact law5_TokenFresh q A0 c0 l0 w hr0 hc0 h1 h2 h3 h4 HL_LErr HL_LG0
  · cases h
end Go.Proofs.YthmcapdakplhdaaDoor.Pr
end

/-! ## text OpnTokenFreshU -/
section
namespace Go.Proofs.YthmcapdakplhdaaDoor.tokenFresh
open Go Go.RowKit Go.Proofs.YthmcapdakplhdaaDoor.Pr Go.Proofs.YthmcapdakplhdaaDoor.Opn Go.Proofs.YthmcapdakplhdaaDoorW.PrintWords Go.Proofs.YthmcapdakplhdaaDoorW.PrintLast Go.Proofs.YthmcapdakplhdaaDoorW.PrintMore
set_option linter.unusedVariables false
/-- The bulk of texts. -/
def bulkM (x : List ByteArray) : Nat := (x.map fun s : ByteArray => s.size + 1).sum + 1
/-- THE ONE PURE STATEMENT of TokenFresh. -/
def PureG : Prop := ∀ (x0 : (List ByteArray)), LG 16 (fun x => x.size ≤ 140737488351232) x0 → bulkM x0 ≤ 1048576 → ∃ k, refrainlaw5_TokenFresh.f k x0 = some true
end Go.Proofs.YthmcapdakplhdaaDoor.tokenFresh
end

/-! ## text PuR1 -/
section
/- The document's scanner (refrainref5) on lists of bytes, part 1: bytes, numbers, runs. -/
namespace Go.Proofs.YthmcapdakplhdaaDoor.Pu
open Go Go.RowKit Go.Proofs.YthmcapdakplhdaaDoor.Pr Go.Proofs.YthmcapdakplhdaaDoorW.PrintWords Go.Proofs.YthmcapdakplhdaaDoorW.PrintLast Go.Proofs.YthmcapdakplhdaaDoorW.PrintMore
set_option linter.unusedVariables false
set_option linter.unusedSimpArgs false
theorem blank_n : ∀ n : Nat, n < 256 → refrainref5_blank.f (n : Int) = some (blankN n) := by decide +kernel
theorem letter_n : ∀ n : Nat, n < 256 → refrainref5_letter.f (n : Int) = some (letN n) := by decide +kernel
theorem digit_n : ∀ n : Nat, n < 256 → refrainref5_digit.f (n : Int) = some (digN n) := by decide +kernel
theorem rhex_n : ∀ n : Nat, n < 256 → refrainref5_hex.f 20 (n : Int) = some (hexN n) := by decide +kernel
theorem rhex_ev (c : UInt8) : Ev (fun k => refrainref5_hex.f k (c.toNat : Int)) (hexN c.toNat) := Ev.of (fun k => refrainref5_hex.mono _ k) (rhex_n _ c.toNat_lt)
theorem w1 (n : Nat) (h : n ≤ 4611686018427387904) : wrap64 ((n : Int) + 1) = ((n + 1 : Nat) : Int) := by unfold wrap64; omega
theorem wnn (a b : Nat) (h : a + b ≤ 4611686018427387904) : wrap64 ((a : Int) + (b : Int)) = ((a + b : Nat) : Int) := by unfold wrap64; omega
theorem small_ev (w : List UInt8) : Ev (fun k => refrainref5_small.f k (B w)) (smallB w) := by
  have key : ∀ b : Bool, Ev (fun k => refrainref5_small.j0 k (B w) b) (if b = true then false else if w.length = 19 then Op.bytesLess w mostD || w == mostD else decide (w.length < 19)) := by
    intro b
    refine Ev.step (f := fun _ => some _) (fun k => ?_) (Ev.now _)
    simp only [refrainref5_small.j0, B_size, B_toList]
    cases b
    · rw [if_neg Bool.false_ne_true, if_neg Bool.false_ne_true]
      by_cases h : w.length = 19
      · rw [if_pos (by omega), if_pos h]
        show (if Op.bytesLess w mostD = true then some true else if w = mostD then some true else some false) = _
        by_cases h2 : Op.bytesLess w mostD = true
        · rw [if_pos h2, h2]; rfl
        · rw [if_neg h2]
          rw [Bool.not_eq_true] at h2
          rw [h2, Bool.false_or]
          by_cases h3 : w = mostD
          · rw [if_pos h3, h3]; rfl
          · rw [if_neg h3, beq_eq_false_iff_ne.2 h3]
      · rw [if_neg (by omega), if_neg h]
        congr 1
        rw [Bool.eq_iff_iff, decide_eq_true_eq, decide_eq_true_eq]
        omega
    · rfl
  unfold smallB
  have hk := key (decide (1 < w.length) && w.head? == some 48)
  refine Ev.congr (fun k => ?_) hk
  unfold refrainref5_small.f
  rw [B_size]
  by_cases h : 1 < w.length
  · rw [if_pos (by omega), if_pos (by omega)]
    match w, h with
    | c :: t, h =>
      rw [bt_head]
      have e1 : (((c.toNat : Nat) : Int) == 48) = (decide (1 < (c :: t).length) && (c :: t).head? == some 48) := by
        rw [decide_eq_true h, Bool.true_and, List.head?_cons, Bool.eq_iff_iff, beq_iff_eq, beq_iff_eq]
        constructor
        · intro q
          have : c = 48 := UInt8.toNat_inj.1 (by show c.toNat = 48; omega)
          rw [this]
        · intro q
          rw [Option.some.inj q]; rfl
      rw [e1]
  · rw [if_neg (by omega), decide_eq_false h, Bool.false_and]
/-! runs -/
def dB (c : UInt8) : Bool := digN c.toNat
theorem run_ev5 (l : List UInt8) (hl : l.length ≤ 140737488355328) (letters : Bool) (p : UInt8 → Bool) (hp : ∀ c, p c = (digN c.toNat || (letters && letN c.toNat))) : ∀ (rest pre : List UInt8), pre ++ rest = l →
    Ev (fun k => refrainref5_run.l0 k (B l) (pre.length : Int) letters) ((pre.length + (rest.takeWhile p).length : Nat) : Int)
  | [], pre, h => by
    have hz : l.length = pre.length := by rw [← h]; simp
    refine Ev.step (f := fun _ => some _) (fun k => ?_) (Ev.now _)
    simp only [refrainref5_run.l0]
    rw [if_neg (by rw [B_size]; omega)]
    simp
  | c :: t, pre, h => by
    have hz : l.length = pre.length + (t.length + 1) := by rw [← h]; simp
    have ih := run_ev5 l hl letters p hp t (pre ++ [c]) (by rw [← h]; simp)
    rw [List.length_append, List.length_singleton] at ih
    have hb : bt (B l) (pre.length : Int) = (c.toNat : Int) := by rw [← h]; exact bt_mid pre c t
    have hd := digit_n c.toNat c.toNat_lt
    have hle := letter_n c.toNat c.toNat_lt
    have hpc := hp c
    rw [List.takeWhile_cons]
    by_cases hq : p c = true
    · rw [if_pos hq, List.length_cons, show pre.length + ((t.takeWhile p).length + 1) = pre.length + 1 + (t.takeWhile p).length by omega]
      refine Ev.step (fun k => ?_) ih
      simp only [refrainref5_run.l0]
      rw [if_pos (by rw [B_size]; omega), if_pos (by omega), hb, hd, Option.bind_some, hle]
      rw [hpc] at hq
      cases h1 : digN c.toNat
      · rw [h1, Bool.false_or] at hq
        obtain ⟨q1, q2⟩ := Bool.and_eq_true_iff.1 hq
        rw [if_neg (by decide), if_pos q1, Option.bind_some, if_pos q2, w1 _ (by omega)]
      · rw [if_pos rfl, w1 _ (by omega)]
    · rw [if_neg hq]
      rw [Bool.not_eq_true] at hq
      rw [hpc, Bool.or_eq_false_iff] at hq
      refine Ev.step (f := fun _ => some _) (fun k => ?_) (Ev.now _)
      simp only [refrainref5_run.l0]
      rw [if_pos (by rw [B_size]; omega), if_pos (by omega), hb, hd, Option.bind_some, hle, hq.1, if_neg (by decide)]
      cases letters
      · rw [if_neg (by decide)]; simp
      · have := hq.2
        rw [Bool.true_and] at this
        rw [if_pos rfl, Option.bind_some, this, if_neg (by decide)]; simp
end Go.Proofs.YthmcapdakplhdaaDoor.Pu
end

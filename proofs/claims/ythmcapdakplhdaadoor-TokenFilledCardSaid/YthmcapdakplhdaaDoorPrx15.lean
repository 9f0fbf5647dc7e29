-- printed by a patched copy of the kit's print, for this seat
import Derived.Test.YthmcapdakplhdaaDoorPrx0
import Derived.Test.YthmcapdakplhdaaDoorPrx7
import Derived.Test.YthmcapdakplhdaaDoorPrx8
import Derived.Test.YthmcapdakplhdaaDoorExtTok1
namespace Go.Proofs.YthmcapdakplhdaaDoor.Pr
open Go.RowKit Go.Proofs.YthmcapdakplhdaaDoorW.PrintWords Go.Proofs.YthmcapdakplhdaaDoorW.PrintLast Go.Proofs.YthmcapdakplhdaaDoorW.PrintMore
attribute [local go_sem] max2_int min2_int max_two min_two max_three min_three max_four min_four   -- for this text's walks alone
attribute [local go_sem high] Go.Proofs.YthmcapdakplhdaaDoor.isSome_setCell
set_option maxRecDepth 100000
set_option linter.unusedVariables false
set_option linter.unusedSimpArgs false

/-! ### token_canBe: function 52 -/
def token_canBe.f (k : Nat) (a0_0 : Int) (a0_1 : ByteArray) (a0_2 : Int) (a1 : Bool) : Option (Bool) := if a0_0 = 1 then (if a0_1.toList = ([] : List UInt8) then (some false) else (if (a0_1.size : Int) ≤ 32 then (if 0 < (a0_1.size : Int) then ((token_begins.f k (bt a0_1 0)).bind fun t385 => (if t385 = 2 then ((token_run.f k a0_1 (.func (.func 48) #[] #[])).bind fun t386 => (some (t386 == (a0_1.size : Int)))) else (some false))) else (none)) else (some false))) else (if a0_0 = 2 then ((token_isInt.f a0_1).bind fun t387 => (some t387)) else (if a0_0 = 3 then (some (decide ((a0_1.size : Int) ≤ 256))) else (if a0_0 = 4 then (if a0_1.toList = ([] : List UInt8) then (some false) else ((token_signAt.f k a0_1).bind fun t388 => (some (t388 == (a0_1.size : Int))))) else (if a0_0 = 5 then (if a0_1.toList = ([] : List UInt8) then (some a1) else (some false)) else (some false)))))
set_option maxRecDepth 100000 in
theorem token_canBe.mono : ∀ a0 a1 a2 a3 k, LeO (token_canBe.f k a0 a1 a2 a3) (token_canBe.f (k + 1) a0 a1 a2 a3) := by
  intro a0 a1 a2 a3 k
  unfold token_canBe.f
  repeat' first
      | (with_reducible exact token_begins.mono _ _)
      | (with_reducible exact token_run.mono _ _ _)
      | (with_reducible exact token_signAt.mono _ _)
      | (with_reducible exact LeO.refl _)
      | (with_reducible exact LeO.none _)
      | (with_reducible refine LeO.ite ?_ ?_)
      | (with_reducible refine LeO.bind ?_ (fun _ => ?_))
      | exact token_begins.mono _ _
      | exact token_run.mono _ _ _
      | exact token_signAt.mono _ _
      | exact LeO.none _
      | refine LeO.ite ?_ ?_
      | refine LeO.bind ?_ (fun _ => ?_)
set_option maxHeartbeats 8000000 in
set_option maxRecDepth 100000 in
theorem token_canBe.calls (k : Nat) (a0_0 : Int) (a0_1 : ByteArray) (a0_2 : Int) (a1 : Bool) (r : Bool) (w : World) (HL_LErr : Aside0 (LErr w)) (h : token_canBe.f k a0_0 a0_1 a0_2 a1 = some r) :
    Calls Tryd.prog 52 #[.agg #[.int .i64 a0_0, .string a0_1, .int .i64 a0_2], .bool a1] w fun e w' => e = .returned (.bool r) ∧ Below w.heap.size w w' := by
  have hu44 := Tryd.underlying44
  have HB := Aside0.mk (Below.refl w.heap.size w)
  have H : (if a0_0 = 1 then (if a0_1.toList = ([] : List UInt8) then (some false) else (if (a0_1.size : Int) ≤ 32 then (if 0 < (a0_1.size : Int) then ((token_begins.f k (bt a0_1 0)).bind fun t385 => (if t385 = 2 then ((token_run.f k a0_1 (.func (.func 48) #[] #[])).bind fun t386 => (some (t386 == (a0_1.size : Int)))) else (some false))) else (none)) else (some false))) else (if a0_0 = 2 then ((token_isInt.f a0_1).bind fun t387 => (some t387)) else (if a0_0 = 3 then (some (decide ((a0_1.size : Int) ≤ 256))) else (if a0_0 = 4 then (if a0_1.toList = ([] : List UInt8) then (some false) else ((token_signAt.f k a0_1).bind fun t388 => (some (t388 == (a0_1.size : Int))))) else (if a0_0 = 5 then (if a0_1.toList = ([] : List UInt8) then (some a1) else (some false)) else (some false)))))) = some r := h
  clear h
  by_cases c3 : a0_0 = 1
  · rw [if_pos c3] at H
    have c3b0 : (a0_0 == 1) = true := beq_iff_eq.mpr c3
    have c3b1 : (a0_0 != 1) = false := bne_eq_false_iff_eq.mpr c3
    clear c3
    by_cases c4 : a0_1.toList = ([] : List UInt8)
    · rw [if_pos c4] at H
      have c4b0 : (a0_1.toList == ([] : List UInt8)) = true := beq_iff_eq.mpr c4
      have c4b1 : (a0_1.toList != ([] : List UInt8)) = false := bne_eq_false_iff_eq.mpr c4
      clear c4
      obtain rfl := Option.some.inj H
      go_enter Tryd.func52, Tryd.ntmps52
      go_wp2_with (first | ((with_reducible refine gate_dst (N := 2) rfl ?_); (try (refine gate_guard (by rfl) ?_; dsimp only)); refine box_event ?hg (N := 2) ?hd (cs := #[.int .i64 a0_0, .string a0_1, .int .i64 a0_2]) (t := 44) ?hr ?_; (case hd => rfl); (case hg => rfl); (case hr => first | (go_simp; done) | (go_simp; rfl)); intro gb384 hg w5 hbox hb; have BK384 := Aside0.mk hbox; have GW384 := geA hg HB; have GE384 := geA hg HB; replace HB := bsA HB hb; clear hb hbox hg; have hcz6_0 : w5.cell? ⟨gb384, 0, none⟩ = some (.int .i64 a0_0) := (blk_cell BK384.out 0).trans rfl; have hcz6_1 : w5.cell? ⟨gb384, 1, none⟩ = some (.string a0_1) := (blk_cell BK384.out 1).trans rfl; have hcz6_2 : w5.cell? ⟨gb384, 2, none⟩ = some (.int .i64 a0_2) := (blk_cell BK384.out 2).trans rfl; have hfz6_0 := blk_frozen BK384.out 0; have hfz6_1 := blk_frozen BK384.out 1; have hfz6_2 := blk_frozen BK384.out 2))
      go_ret
      exact ⟨by first | rfl | (simp [errW_none, errW_some] <;> rfl) | (simp [*, errW_none, errW_some] <;> rfl), hbT HB.out⟩
    · rw [if_neg c4] at H
      have c4b0 : (a0_1.toList == ([] : List UInt8)) = false := beq_eq_false_iff_ne.mpr c4
      have c4b1 : (a0_1.toList != ([] : List UInt8)) = true := bne_iff_ne.mpr c4
      by_cases c7 : (a0_1.size : Int) ≤ 32
      · rw [if_pos c7] at H
        have c7b0 : decide ((a0_1.size : Int) ≤ 32) = true := decide_eq_true c7
        have c7b1 : decide (a0_1.size ≤ 32) = true := decide_eq_true (by omega)
        clear c7
        by_cases c8 : 0 < (a0_1.size : Int)
        · rw [if_pos c8] at H
          have c8b0 : decide (0 < (a0_1.size : Int)) = true := decide_eq_true c8
          have c8b1 : decide (0 < a0_1.size) = true := decide_eq_true (by omega)
          clear c8
          replace H := Option.bind_eq_some_iff.mp H
          obtain ⟨t385, A100, H⟩ := H
          replace H : (if t385 = 2 then ((token_run.f k a0_1 (.func (.func 48) #[] #[])).bind fun t386 => (some (t386 == (a0_1.size : Int)))) else (some false)) = some r := H
          have A10 := Aside0.mk A100
          clear A100
          by_cases c11 : t385 = 2
          · rw [if_pos c11] at H
            have c11b0 : (t385 == 2) = true := beq_iff_eq.mpr c11
            have c11b1 : (t385 != 2) = false := bne_eq_false_iff_eq.mpr c11
            clear c11
            replace H := Option.bind_eq_some_iff.mp H
            obtain ⟨t386, A120, H⟩ := H
            replace H : (some (t386 == (a0_1.size : Int))) = some r := H
            have A12 := Aside0.mk A120
            clear A120
            obtain rfl := Option.some.inj H
            go_enter Tryd.func52, Tryd.ntmps52
            go_wp2_with (first | ((with_reducible refine gate_dst (N := 2) rfl ?_); (try (refine gate_guard (by rfl) ?_; dsimp only)); refine box_event ?hg (N := 2) ?hd (cs := #[.int .i64 a0_0, .string a0_1, .int .i64 a0_2]) (t := 44) ?hr ?_; (case hd => rfl); (case hg => rfl); (case hr => first | (go_simp; done) | (go_simp; rfl)); intro gb384 hg w13 hbox hb; have BK384 := Aside0.mk hbox; have GW384 := geA hg HB; have GE384 := geA hg HB; replace HB := bsA HB hb; clear hb hbox hg; have hcz14_0 : w13.cell? ⟨gb384, 0, none⟩ = some (.int .i64 a0_0) := (blk_cell BK384.out 0).trans rfl; have hcz14_1 : w13.cell? ⟨gb384, 1, none⟩ = some (.string a0_1) := (blk_cell BK384.out 1).trans rfl; have hcz14_2 : w13.cell? ⟨gb384, 2, none⟩ = some (.int .i64 a0_2) := (blk_cell BK384.out 2).trans rfl; have hfz14_0 := blk_frozen BK384.out 0; have hfz14_1 := blk_frozen BK384.out 1; have hfz14_2 := blk_frozen BK384.out 2; have p9 : 0 ≤ (0 : Int) := (by omega); have q9 : 0 < a0_1.size := (by have : (0 : Int) < (a0_1.size : Int) := of_decide_eq_true (by first | (with_reducible assumption) | assumption); omega); have hx9 : ∀ h : 0 < a0_1.size, ((a0_1[0]'h).toNat : Int) = bt a0_1 0 := bt_at a0_1 0; clear p9; have qi9 : (0 < (a0_1.size : Int)) = True := eq_true (of_decide_eq_true (by first | (with_reducible assumption) | assumption)); replace q9 := eq_true q9) | (go_at_call 46; (with_reducible refine (token_begins.calls k (bt a0_1 0) t385 _ A10.out).mono ?_); rintro e w' ⟨rfl, ⟨nd, rfl⟩⟩) | (go_at_call 47; (with_reducible refine (token_run.calls k a0_1 (.func (.func 48) #[] #[]) t386 _ A12.out).mono ?_); rintro e w' ⟨rfl, ⟨nd, rfl⟩⟩))
            go_ret
            exact ⟨by first | rfl | (simp [errW_none, errW_some] <;> rfl) | (simp [*, errW_none, errW_some] <;> rfl), hbT HB.out⟩
          · rw [if_neg c11] at H
            have c11b0 : (t385 == 2) = false := beq_eq_false_iff_ne.mpr c11
            have c11b1 : (t385 != 2) = true := bne_iff_ne.mpr c11
            obtain rfl := Option.some.inj H
            go_enter Tryd.func52, Tryd.ntmps52
            go_wp2_with (first | ((with_reducible refine gate_dst (N := 2) rfl ?_); (try (refine gate_guard (by rfl) ?_; dsimp only)); refine box_event ?hg (N := 2) ?hd (cs := #[.int .i64 a0_0, .string a0_1, .int .i64 a0_2]) (t := 44) ?hr ?_; (case hd => rfl); (case hg => rfl); (case hr => first | (go_simp; done) | (go_simp; rfl)); intro gb384 hg w15 hbox hb; have BK384 := Aside0.mk hbox; have GW384 := geA hg HB; have GE384 := geA hg HB; replace HB := bsA HB hb; clear hb hbox hg; have hcz16_0 : w15.cell? ⟨gb384, 0, none⟩ = some (.int .i64 a0_0) := (blk_cell BK384.out 0).trans rfl; have hcz16_1 : w15.cell? ⟨gb384, 1, none⟩ = some (.string a0_1) := (blk_cell BK384.out 1).trans rfl; have hcz16_2 : w15.cell? ⟨gb384, 2, none⟩ = some (.int .i64 a0_2) := (blk_cell BK384.out 2).trans rfl; have hfz16_0 := blk_frozen BK384.out 0; have hfz16_1 := blk_frozen BK384.out 1; have hfz16_2 := blk_frozen BK384.out 2; have p9 : 0 ≤ (0 : Int) := (by omega); have q9 : 0 < a0_1.size := (by have : (0 : Int) < (a0_1.size : Int) := of_decide_eq_true (by first | (with_reducible assumption) | assumption); omega); have hx9 : ∀ h : 0 < a0_1.size, ((a0_1[0]'h).toNat : Int) = bt a0_1 0 := bt_at a0_1 0; clear p9; have qi9 : (0 < (a0_1.size : Int)) = True := eq_true (of_decide_eq_true (by first | (with_reducible assumption) | assumption)); replace q9 := eq_true q9) | (go_at_call 46; (with_reducible refine (token_begins.calls k (bt a0_1 0) t385 _ A10.out).mono ?_); rintro e w' ⟨rfl, ⟨nd, rfl⟩⟩))
            go_ret
            exact ⟨by first | rfl | (simp [errW_none, errW_some] <;> rfl) | (simp [*, errW_none, errW_some] <;> rfl), hbT HB.out⟩
        · rw [if_neg c8] at H
          exact absurd H (by simp)
      · rw [if_neg c7] at H
        have c7b0 : decide ((a0_1.size : Int) ≤ 32) = false := decide_eq_false c7
        have c7b1 : decide (a0_1.size ≤ 32) = false := decide_eq_false (by omega)
        clear c7
        obtain rfl := Option.some.inj H
        go_enter Tryd.func52, Tryd.ntmps52
        go_wp2_with (first | ((with_reducible refine gate_dst (N := 2) rfl ?_); (try (refine gate_guard (by rfl) ?_; dsimp only)); refine box_event ?hg (N := 2) ?hd (cs := #[.int .i64 a0_0, .string a0_1, .int .i64 a0_2]) (t := 44) ?hr ?_; (case hd => rfl); (case hg => rfl); (case hr => first | (go_simp; done) | (go_simp; rfl)); intro gb384 hg w17 hbox hb; have BK384 := Aside0.mk hbox; have GW384 := geA hg HB; have GE384 := geA hg HB; replace HB := bsA HB hb; clear hb hbox hg; have hcz18_0 : w17.cell? ⟨gb384, 0, none⟩ = some (.int .i64 a0_0) := (blk_cell BK384.out 0).trans rfl; have hcz18_1 : w17.cell? ⟨gb384, 1, none⟩ = some (.string a0_1) := (blk_cell BK384.out 1).trans rfl; have hcz18_2 : w17.cell? ⟨gb384, 2, none⟩ = some (.int .i64 a0_2) := (blk_cell BK384.out 2).trans rfl; have hfz18_0 := blk_frozen BK384.out 0; have hfz18_1 := blk_frozen BK384.out 1; have hfz18_2 := blk_frozen BK384.out 2))
        go_ret
        exact ⟨by first | rfl | (simp [errW_none, errW_some] <;> rfl) | (simp [*, errW_none, errW_some] <;> rfl), hbT HB.out⟩
  · rw [if_neg c3] at H
    have c3b0 : (a0_0 == 1) = false := beq_eq_false_iff_ne.mpr c3
    have c3b1 : (a0_0 != 1) = true := bne_iff_ne.mpr c3
    by_cases c19 : a0_0 = 2
    · rw [if_pos c19] at H
      have c19b0 : (a0_0 == 2) = true := beq_iff_eq.mpr c19
      have c19b1 : (a0_0 != 2) = false := bne_eq_false_iff_eq.mpr c19
      clear c19
      replace H := Option.bind_eq_some_iff.mp H
      obtain ⟨t387, A200, H⟩ := H
      replace H : (some t387) = some r := H
      have A20 := Aside0.mk A200
      clear A200
      obtain rfl := Option.some.inj H
      go_enter Tryd.func52, Tryd.ntmps52
      go_wp2_with (first | ((with_reducible refine gate_dst (N := 2) rfl ?_); (try (refine gate_guard (by rfl) ?_; dsimp only)); refine box_event ?hg (N := 2) ?hd (cs := #[.int .i64 a0_0, .string a0_1, .int .i64 a0_2]) (t := 44) ?hr ?_; (case hd => rfl); (case hg => rfl); (case hr => first | (go_simp; done) | (go_simp; rfl)); intro gb384 hg w21 hbox hb; have BK384 := Aside0.mk hbox; have GW384 := geA hg HB; have GE384 := geA hg HB; replace HB := bsA HB hb; clear hb hbox hg; have hcz22_0 : w21.cell? ⟨gb384, 0, none⟩ = some (.int .i64 a0_0) := (blk_cell BK384.out 0).trans rfl; have hcz22_1 : w21.cell? ⟨gb384, 1, none⟩ = some (.string a0_1) := (blk_cell BK384.out 1).trans rfl; have hcz22_2 : w21.cell? ⟨gb384, 2, none⟩ = some (.int .i64 a0_2) := (blk_cell BK384.out 2).trans rfl; have hfz22_0 := blk_frozen BK384.out 0; have hfz22_1 := blk_frozen BK384.out 1; have hfz22_2 := blk_frozen BK384.out 2) | ((with_reducible refine gate_callee (f := 49) rfl ?_); refine goesT (some 35) Tryd.func49 #[.string a0_1] ?_; (with_reducible refine (token_isInt.calls a0_1 t387 _ ?side1 A20.out).mono ?_); (case side1 => first | (with_reducible exact HL_LErr) | exact ⟨LErr.below HL_LErr.out (hbT HB.out)⟩); rintro e w23 ⟨rfl, hb⟩; refine ⟨_, rfl, ?_⟩; replace BK384 := bbA BK384 hb; replace HB := bsA HB hb; (try clear hb); (try clear hb2); (try clear hk); (try clear hi)))
      go_ret
      exact ⟨by first | rfl | (simp [errW_none, errW_some] <;> rfl) | (simp [*, errW_none, errW_some] <;> rfl), hbT HB.out⟩
    · rw [if_neg c19] at H
      have c19b0 : (a0_0 == 2) = false := beq_eq_false_iff_ne.mpr c19
      have c19b1 : (a0_0 != 2) = true := bne_iff_ne.mpr c19
      by_cases c24 : a0_0 = 3
      · rw [if_pos c24] at H
        have c24b0 : (a0_0 == 3) = true := beq_iff_eq.mpr c24
        have c24b1 : (a0_0 != 3) = false := bne_eq_false_iff_eq.mpr c24
        clear c24
        obtain rfl := Option.some.inj H
        go_enter Tryd.func52, Tryd.ntmps52
        go_wp2_with (first | ((with_reducible refine gate_dst (N := 2) rfl ?_); (try (refine gate_guard (by rfl) ?_; dsimp only)); refine box_event ?hg (N := 2) ?hd (cs := #[.int .i64 a0_0, .string a0_1, .int .i64 a0_2]) (t := 44) ?hr ?_; (case hd => rfl); (case hg => rfl); (case hr => first | (go_simp; done) | (go_simp; rfl)); intro gb384 hg w25 hbox hb; have BK384 := Aside0.mk hbox; have GW384 := geA hg HB; have GE384 := geA hg HB; replace HB := bsA HB hb; clear hb hbox hg; have hcz26_0 : w25.cell? ⟨gb384, 0, none⟩ = some (.int .i64 a0_0) := (blk_cell BK384.out 0).trans rfl; have hcz26_1 : w25.cell? ⟨gb384, 1, none⟩ = some (.string a0_1) := (blk_cell BK384.out 1).trans rfl; have hcz26_2 : w25.cell? ⟨gb384, 2, none⟩ = some (.int .i64 a0_2) := (blk_cell BK384.out 2).trans rfl; have hfz26_0 := blk_frozen BK384.out 0; have hfz26_1 := blk_frozen BK384.out 1; have hfz26_2 := blk_frozen BK384.out 2))
        go_ret
        exact ⟨by first | rfl | (simp [errW_none, errW_some] <;> rfl) | (simp [*, errW_none, errW_some] <;> rfl), hbT HB.out⟩
      · rw [if_neg c24] at H
        have c24b0 : (a0_0 == 3) = false := beq_eq_false_iff_ne.mpr c24
        have c24b1 : (a0_0 != 3) = true := bne_iff_ne.mpr c24
        by_cases c27 : a0_0 = 4
        · rw [if_pos c27] at H
          have c27b0 : (a0_0 == 4) = true := beq_iff_eq.mpr c27
          have c27b1 : (a0_0 != 4) = false := bne_eq_false_iff_eq.mpr c27
          clear c27
          by_cases c28 : a0_1.toList = ([] : List UInt8)
          · rw [if_pos c28] at H
            have c28b0 : (a0_1.toList == ([] : List UInt8)) = true := beq_iff_eq.mpr c28
            have c28b1 : (a0_1.toList != ([] : List UInt8)) = false := bne_eq_false_iff_eq.mpr c28
            clear c28
            obtain rfl := Option.some.inj H
            go_enter Tryd.func52, Tryd.ntmps52
            go_wp2_with (first | ((with_reducible refine gate_dst (N := 2) rfl ?_); (try (refine gate_guard (by rfl) ?_; dsimp only)); refine box_event ?hg (N := 2) ?hd (cs := #[.int .i64 a0_0, .string a0_1, .int .i64 a0_2]) (t := 44) ?hr ?_; (case hd => rfl); (case hg => rfl); (case hr => first | (go_simp; done) | (go_simp; rfl)); intro gb384 hg w29 hbox hb; have BK384 := Aside0.mk hbox; have GW384 := geA hg HB; have GE384 := geA hg HB; replace HB := bsA HB hb; clear hb hbox hg; have hcz30_0 : w29.cell? ⟨gb384, 0, none⟩ = some (.int .i64 a0_0) := (blk_cell BK384.out 0).trans rfl; have hcz30_1 : w29.cell? ⟨gb384, 1, none⟩ = some (.string a0_1) := (blk_cell BK384.out 1).trans rfl; have hcz30_2 : w29.cell? ⟨gb384, 2, none⟩ = some (.int .i64 a0_2) := (blk_cell BK384.out 2).trans rfl; have hfz30_0 := blk_frozen BK384.out 0; have hfz30_1 := blk_frozen BK384.out 1; have hfz30_2 := blk_frozen BK384.out 2))
            go_ret
            exact ⟨by first | rfl | (simp [errW_none, errW_some] <;> rfl) | (simp [*, errW_none, errW_some] <;> rfl), hbT HB.out⟩
          · rw [if_neg c28] at H
            have c28b0 : (a0_1.toList == ([] : List UInt8)) = false := beq_eq_false_iff_ne.mpr c28
            have c28b1 : (a0_1.toList != ([] : List UInt8)) = true := bne_iff_ne.mpr c28
            replace H := Option.bind_eq_some_iff.mp H
            obtain ⟨t388, A310, H⟩ := H
            replace H : (some (t388 == (a0_1.size : Int))) = some r := H
            have A31 := Aside0.mk A310
            clear A310
            obtain rfl := Option.some.inj H
            go_enter Tryd.func52, Tryd.ntmps52
            go_wp2_with (first | ((with_reducible refine gate_dst (N := 2) rfl ?_); (try (refine gate_guard (by rfl) ?_; dsimp only)); refine box_event ?hg (N := 2) ?hd (cs := #[.int .i64 a0_0, .string a0_1, .int .i64 a0_2]) (t := 44) ?hr ?_; (case hd => rfl); (case hg => rfl); (case hr => first | (go_simp; done) | (go_simp; rfl)); intro gb384 hg w32 hbox hb; have BK384 := Aside0.mk hbox; have GW384 := geA hg HB; have GE384 := geA hg HB; replace HB := bsA HB hb; clear hb hbox hg; have hcz33_0 : w32.cell? ⟨gb384, 0, none⟩ = some (.int .i64 a0_0) := (blk_cell BK384.out 0).trans rfl; have hcz33_1 : w32.cell? ⟨gb384, 1, none⟩ = some (.string a0_1) := (blk_cell BK384.out 1).trans rfl; have hcz33_2 : w32.cell? ⟨gb384, 2, none⟩ = some (.int .i64 a0_2) := (blk_cell BK384.out 2).trans rfl; have hfz33_0 := blk_frozen BK384.out 0; have hfz33_1 := blk_frozen BK384.out 1; have hfz33_2 := blk_frozen BK384.out 2) | (go_at_call 51; (with_reducible refine (token_signAt.calls k a0_1 t388 _ A31.out).mono ?_); rintro e w' ⟨rfl, ⟨nd, rfl⟩⟩))
            go_ret
            exact ⟨by first | rfl | (simp [errW_none, errW_some] <;> rfl) | (simp [*, errW_none, errW_some] <;> rfl), hbT HB.out⟩
        · rw [if_neg c27] at H
          have c27b0 : (a0_0 == 4) = false := beq_eq_false_iff_ne.mpr c27
          have c27b1 : (a0_0 != 4) = true := bne_iff_ne.mpr c27
          by_cases c34 : a0_0 = 5
          · rw [if_pos c34] at H
            have c34b0 : (a0_0 == 5) = true := beq_iff_eq.mpr c34
            have c34b1 : (a0_0 != 5) = false := bne_eq_false_iff_eq.mpr c34
            clear c34
            by_cases c35 : a0_1.toList = ([] : List UInt8)
            · rw [if_pos c35] at H
              have c35b0 : (a0_1.toList == ([] : List UInt8)) = true := beq_iff_eq.mpr c35
              have c35b1 : (a0_1.toList != ([] : List UInt8)) = false := bne_eq_false_iff_eq.mpr c35
              clear c35
              obtain rfl := Option.some.inj H
              go_enter Tryd.func52, Tryd.ntmps52
              go_wp2_with (first | ((with_reducible refine gate_dst (N := 2) rfl ?_); (try (refine gate_guard (by rfl) ?_; dsimp only)); refine box_event ?hg (N := 2) ?hd (cs := #[.int .i64 a0_0, .string a0_1, .int .i64 a0_2]) (t := 44) ?hr ?_; (case hd => rfl); (case hg => rfl); (case hr => first | (go_simp; done) | (go_simp; rfl)); intro gb384 hg w36 hbox hb; have BK384 := Aside0.mk hbox; have GW384 := geA hg HB; have GE384 := geA hg HB; replace HB := bsA HB hb; clear hb hbox hg; have hcz37_0 : w36.cell? ⟨gb384, 0, none⟩ = some (.int .i64 a0_0) := (blk_cell BK384.out 0).trans rfl; have hcz37_1 : w36.cell? ⟨gb384, 1, none⟩ = some (.string a0_1) := (blk_cell BK384.out 1).trans rfl; have hcz37_2 : w36.cell? ⟨gb384, 2, none⟩ = some (.int .i64 a0_2) := (blk_cell BK384.out 2).trans rfl; have hfz37_0 := blk_frozen BK384.out 0; have hfz37_1 := blk_frozen BK384.out 1; have hfz37_2 := blk_frozen BK384.out 2))
              go_ret
              exact ⟨by first | rfl | (simp [errW_none, errW_some] <;> rfl) | (simp [*, errW_none, errW_some] <;> rfl), hbT HB.out⟩
            · rw [if_neg c35] at H
              have c35b0 : (a0_1.toList == ([] : List UInt8)) = false := beq_eq_false_iff_ne.mpr c35
              have c35b1 : (a0_1.toList != ([] : List UInt8)) = true := bne_iff_ne.mpr c35
              obtain rfl := Option.some.inj H
              go_enter Tryd.func52, Tryd.ntmps52
              go_wp2_with (first | ((with_reducible refine gate_dst (N := 2) rfl ?_); (try (refine gate_guard (by rfl) ?_; dsimp only)); refine box_event ?hg (N := 2) ?hd (cs := #[.int .i64 a0_0, .string a0_1, .int .i64 a0_2]) (t := 44) ?hr ?_; (case hd => rfl); (case hg => rfl); (case hr => first | (go_simp; done) | (go_simp; rfl)); intro gb384 hg w38 hbox hb; have BK384 := Aside0.mk hbox; have GW384 := geA hg HB; have GE384 := geA hg HB; replace HB := bsA HB hb; clear hb hbox hg; have hcz39_0 : w38.cell? ⟨gb384, 0, none⟩ = some (.int .i64 a0_0) := (blk_cell BK384.out 0).trans rfl; have hcz39_1 : w38.cell? ⟨gb384, 1, none⟩ = some (.string a0_1) := (blk_cell BK384.out 1).trans rfl; have hcz39_2 : w38.cell? ⟨gb384, 2, none⟩ = some (.int .i64 a0_2) := (blk_cell BK384.out 2).trans rfl; have hfz39_0 := blk_frozen BK384.out 0; have hfz39_1 := blk_frozen BK384.out 1; have hfz39_2 := blk_frozen BK384.out 2))
              go_ret
              exact ⟨by first | rfl | (simp [errW_none, errW_some] <;> rfl) | (simp [*, errW_none, errW_some] <;> rfl), hbT HB.out⟩
          · rw [if_neg c34] at H
            have c34b0 : (a0_0 == 5) = false := beq_eq_false_iff_ne.mpr c34
            have c34b1 : (a0_0 != 5) = true := bne_iff_ne.mpr c34
            obtain rfl := Option.some.inj H
            go_enter Tryd.func52, Tryd.ntmps52
            go_wp2_with (first | ((with_reducible refine gate_dst (N := 2) rfl ?_); (try (refine gate_guard (by rfl) ?_; dsimp only)); refine box_event ?hg (N := 2) ?hd (cs := #[.int .i64 a0_0, .string a0_1, .int .i64 a0_2]) (t := 44) ?hr ?_; (case hd => rfl); (case hg => rfl); (case hr => first | (go_simp; done) | (go_simp; rfl)); intro gb384 hg w40 hbox hb; have BK384 := Aside0.mk hbox; have GW384 := geA hg HB; have GE384 := geA hg HB; replace HB := bsA HB hb; clear hb hbox hg; have hcz41_0 : w40.cell? ⟨gb384, 0, none⟩ = some (.int .i64 a0_0) := (blk_cell BK384.out 0).trans rfl; have hcz41_1 : w40.cell? ⟨gb384, 1, none⟩ = some (.string a0_1) := (blk_cell BK384.out 1).trans rfl; have hcz41_2 : w40.cell? ⟨gb384, 2, none⟩ = some (.int .i64 a0_2) := (blk_cell BK384.out 2).trans rfl; have hfz41_0 := blk_frozen BK384.out 0; have hfz41_1 := blk_frozen BK384.out 1; have hfz41_2 := blk_frozen BK384.out 2))
            go_ret
            exact ⟨by first | rfl | (simp [errW_none, errW_some] <;> rfl) | (simp [*, errW_none, errW_some] <;> rfl), hbT HB.out⟩

end Go.Proofs.YthmcapdakplhdaaDoor.Pr

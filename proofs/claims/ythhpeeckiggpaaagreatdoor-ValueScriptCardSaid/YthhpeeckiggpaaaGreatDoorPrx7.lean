-- printed by a patched copy of the kit's print, for this seat
import Derived.Test.YthhpeeckiggpaaaGreatDoorPrx0
import Derived.Test.YthhpeeckiggpaaaGreatDoorPrx6
namespace Go.Proofs.YthhpeeckiggpaaaGreatDoor.Pr
open Go.RowKit Go.Proofs.YthhpeeckiggpaaaGreatDoorW.PrintWords Go.Proofs.YthhpeeckiggpaaaGreatDoorW.PrintLast Go.Proofs.YthhpeeckiggpaaaGreatDoorW.PrintMore
attribute [local go_sem] max2_int min2_int max_two min_two max_three min_three max_four min_four   -- for this text's walks alone
attribute [local go_sem high] Go.Proofs.YthhpeeckiggpaaaGreatDoor.isSome_setCell
set_option maxRecDepth 100000
set_option linter.unusedVariables false
set_option linter.unusedSimpArgs false

/-! ### refrainref1_Show: function 11 -/
def refrainref1_Show.f (k : Nat) (a0_0 : Int) (a0_1 : Int) (a0_2 : ByteArray) (a0_3 : Bool) : Option (ByteArray × Int) := (refrainref1_Valid.f a0_0 a0_1 a0_2 a0_3).bind fun t275 => (if t275 = true then (if a0_0 = 1 then (if a0_1 < 0 then ((refrainref1_digits.f k (IntKind.u64.wrap ((IntKind.u64.wrap (wrap64 (-(wrap64 (a0_1 + 1))))) + 1))).bind fun t276 => (if 1 + t276.size ≤ 9223372036854775807 then (some ((⟨#[45]⟩ : ByteArray) ++ t276, 0)) else (none))) else ((refrainref1_digits.f k (IntKind.u64.wrap (a0_1))).bind fun t277 => (some (t277, 0)))) else (if a0_0 = 2 then ((refrainref1_quoted.f k a0_2).bind fun t278 => (some (t278, 0))) else (if a0_3 = true then (some ((⟨#[84, 82, 85, 69]⟩ : ByteArray), 0)) else (some ((⟨#[70, 65, 76, 83, 69]⟩ : ByteArray), 0))))) else (some ((⟨#[]⟩ : ByteArray), 12)))
set_option maxRecDepth 100000 in
theorem refrainref1_Show.mono : ∀ a0 a1 a2 a3 k, LeO (refrainref1_Show.f k a0 a1 a2 a3) (refrainref1_Show.f (k + 1) a0 a1 a2 a3) := by
  intro a0 a1 a2 a3 k
  unfold refrainref1_Show.f
  repeat' first
      | (with_reducible exact refrainref1_digits.mono _ _)
      | (with_reducible exact refrainref1_quoted.mono _ _)
      | (with_reducible exact LeO.refl _)
      | (with_reducible exact LeO.none _)
      | (with_reducible refine LeO.ite ?_ ?_)
      | (with_reducible refine LeO.bind ?_ (fun _ => ?_))
      | exact refrainref1_digits.mono _ _
      | exact refrainref1_quoted.mono _ _
      | exact LeO.none _
      | refine LeO.ite ?_ ?_
      | refine LeO.bind ?_ (fun _ => ?_)
set_option maxHeartbeats 8000000 in
set_option maxRecDepth 100000 in
theorem refrainref1_Show.calls (k : Nat) (a0_0 : Int) (a0_1 : Int) (a0_2 : ByteArray) (a0_3 : Bool) (r1 : ByteArray) (r2 : Int) (w : World) (h : refrainref1_Show.f k a0_0 a0_1 a0_2 a0_3 = some (r1, r2)) :
    Calls Tryz.prog 11 #[.agg #[.int .i64 a0_0, .int .i64 a0_1, .string a0_2, .bool a0_3]] w fun e w' => e = .returned (.tuple #[.string r1, .int .i64 r2]) ∧ Below w.heap.size w w' := by
  have hu27 := Tryz.underlying27
  have HB := Aside0.mk (Below.refl w.heap.size w)
  have H : ((refrainref1_Valid.f a0_0 a0_1 a0_2 a0_3).bind fun t275 => (if t275 = true then (if a0_0 = 1 then (if a0_1 < 0 then ((refrainref1_digits.f k (IntKind.u64.wrap ((IntKind.u64.wrap (wrap64 (-(wrap64 (a0_1 + 1))))) + 1))).bind fun t276 => (if 1 + t276.size ≤ 9223372036854775807 then (some ((⟨#[45]⟩ : ByteArray) ++ t276, 0)) else (none))) else ((refrainref1_digits.f k (IntKind.u64.wrap (a0_1))).bind fun t277 => (some (t277, 0)))) else (if a0_0 = 2 then ((refrainref1_quoted.f k a0_2).bind fun t278 => (some (t278, 0))) else (if a0_3 = true then (some ((⟨#[84, 82, 85, 69]⟩ : ByteArray), 0)) else (some ((⟨#[70, 65, 76, 83, 69]⟩ : ByteArray), 0))))) else (some ((⟨#[]⟩ : ByteArray), 12)))) = some (r1, r2) := h
  clear h
  replace H := Option.bind_eq_some_iff.mp H
  obtain ⟨t275, A20, H⟩ := H
  replace H : (if t275 = true then (if a0_0 = 1 then (if a0_1 < 0 then ((refrainref1_digits.f k (IntKind.u64.wrap ((IntKind.u64.wrap (wrap64 (-(wrap64 (a0_1 + 1))))) + 1))).bind fun t276 => (if 1 + t276.size ≤ 9223372036854775807 then (some ((⟨#[45]⟩ : ByteArray) ++ t276, 0)) else (none))) else ((refrainref1_digits.f k (IntKind.u64.wrap (a0_1))).bind fun t277 => (some (t277, 0)))) else (if a0_0 = 2 then ((refrainref1_quoted.f k a0_2).bind fun t278 => (some (t278, 0))) else (if a0_3 = true then (some ((⟨#[84, 82, 85, 69]⟩ : ByteArray), 0)) else (some ((⟨#[70, 65, 76, 83, 69]⟩ : ByteArray), 0))))) else (some ((⟨#[]⟩ : ByteArray), 12))) = some (r1, r2) := H
  have A2 := Aside0.mk A20
  clear A20
  by_cases c3 : t275 = true
  · subst c3
    have H1 : (if a0_0 = 1 then (if a0_1 < 0 then ((refrainref1_digits.f k (IntKind.u64.wrap ((IntKind.u64.wrap (wrap64 (-(wrap64 (a0_1 + 1))))) + 1))).bind fun t276 => (if 1 + t276.size ≤ 9223372036854775807 then (some ((⟨#[45]⟩ : ByteArray) ++ t276, 0)) else (none))) else ((refrainref1_digits.f k (IntKind.u64.wrap (a0_1))).bind fun t277 => (some (t277, 0)))) else (if a0_0 = 2 then ((refrainref1_quoted.f k a0_2).bind fun t278 => (some (t278, 0))) else (if a0_3 = true then (some ((⟨#[84, 82, 85, 69]⟩ : ByteArray), 0)) else (some ((⟨#[70, 65, 76, 83, 69]⟩ : ByteArray), 0))))) = some (r1, r2) := by rw [if_pos rfl] at H; exact H
    clear H
    have H := H1
    clear H1
    by_cases c4 : a0_0 = 1
    · rw [if_pos c4] at H
      have c4b0 : (a0_0 == 1) = true := beq_iff_eq.mpr c4
      have c4b1 : (a0_0 != 1) = false := bne_eq_false_iff_eq.mpr c4
      clear c4
      by_cases c5 : a0_1 < 0
      · rw [if_pos c5] at H
        have c5b0 : decide (a0_1 < 0) = true := decide_eq_true c5
        clear c5
        replace H := Option.bind_eq_some_iff.mp H
        obtain ⟨t276, A60, H⟩ := H
        replace H : (if 1 + t276.size ≤ 9223372036854775807 then (some ((⟨#[45]⟩ : ByteArray) ++ t276, 0)) else (none)) = some (r1, r2) := H
        have A6 := Aside0.mk A60
        clear A60
        by_cases c7 : 1 + t276.size ≤ 9223372036854775807
        · rw [if_pos c7] at H
          have c7b0 := eq_true c7
          have c7b1 : decide (1 + t276.size ≤ 9223372036854775807) = true := decide_eq_true c7
          try have c7b2 : (9223372036854775807 < 1 + t276.size) = False := eq_false (Nat.not_lt.2 c7)
          simp only [Option.some.injEq, Prod.mk.injEq] at H
          obtain ⟨rfl, rfl⟩ := H
          go_enter Tryz.func11, Tryz.ntmps11
          go_wp2_with (first | ((with_reducible refine gate_dst (N := 1) rfl ?_); refine box_event ?hg (N := 1) ?hd (cs := #[.int .i64 a0_0, .int .i64 a0_1, .string a0_2, .bool a0_3]) (t := 27) ?hr ?_; (case hd => rfl); (case hg => rfl); (case hr => first | (go_simp; done) | (go_simp; rfl)); intro gb274 hg w8 hbox hb; have BK274 := Aside0.mk hbox; have GW274 := geA hg HB; have GE274 := geA hg HB; replace HB := bsA HB hb; clear hb hbox hg; have hcz9_0 : w8.cell? ⟨gb274, 0, none⟩ = some (.int .i64 a0_0) := (blk_cell BK274.out 0).trans rfl; have hcz9_1 : w8.cell? ⟨gb274, 1, none⟩ = some (.int .i64 a0_1) := (blk_cell BK274.out 1).trans rfl; have hcz9_2 : w8.cell? ⟨gb274, 2, none⟩ = some (.string a0_2) := (blk_cell BK274.out 2).trans rfl; have hcz9_3 : w8.cell? ⟨gb274, 3, none⟩ = some (.bool a0_3) := (blk_cell BK274.out 3).trans rfl; have hfz9_0 := blk_frozen BK274.out 0; have hfz9_1 := blk_frozen BK274.out 1; have hfz9_2 := blk_frozen BK274.out 2; have hfz9_3 := blk_frozen BK274.out 3) | ((with_reducible refine gate_callee (f := 10) rfl ?_); refine goesT (some 6) Tryz.func10 #[.agg #[.int .i64 a0_0, .int .i64 a0_1, .string a0_2, .bool a0_3]] ?_; (with_reducible refine (refrainref1_Valid.calls a0_0 a0_1 a0_2 a0_3 true _ A2.out).mono ?_); rintro e w10 ⟨rfl, hb⟩; refine ⟨_, rfl, ?_⟩; replace BK274 := bbA BK274 hb; replace HB := bsA HB hb; (try clear hb); (try clear hb2); (try clear hk); (try clear hi); have hcz11_0 : w10.cell? ⟨gb274, 0, none⟩ = some (.int .i64 a0_0) := (blk_cell BK274.out 0).trans rfl; have hcz11_1 : w10.cell? ⟨gb274, 1, none⟩ = some (.int .i64 a0_1) := (blk_cell BK274.out 1).trans rfl; have hcz11_2 : w10.cell? ⟨gb274, 2, none⟩ = some (.string a0_2) := (blk_cell BK274.out 2).trans rfl; have hcz11_3 : w10.cell? ⟨gb274, 3, none⟩ = some (.bool a0_3) := (blk_cell BK274.out 3).trans rfl; have hfz11_0 := blk_frozen BK274.out 0; have hfz11_1 := blk_frozen BK274.out 1; have hfz11_2 := blk_frozen BK274.out 2; have hfz11_3 := blk_frozen BK274.out 3) | ((with_reducible refine gate_callee (f := 28) rfl ?_); refine goesT (some 22) Tryz.func28 #[.int .u64 (IntKind.u64.wrap ((IntKind.u64.wrap (wrap64 (-(wrap64 (a0_1 + 1))))) + 1))] ?_; (with_reducible refine (refrainref1_digits.calls k (IntKind.u64.wrap ((IntKind.u64.wrap (wrap64 (-(wrap64 (a0_1 + 1))))) + 1)) t276 _ A6.out).mono ?_); rintro e w12 ⟨rfl, hb⟩; refine ⟨_, rfl, ?_⟩; replace BK274 := bbA BK274 hb; replace HB := bsA HB hb; (try clear hb); (try clear hb2); (try clear hk); (try clear hi)))
          go_ret2
          exact ⟨by first | rfl | (simp [errW_none, errW_some] <;> rfl) | (simp [*, errW_none, errW_some] <;> rfl), hbT HB.out⟩
        · rw [if_neg c7] at H
          exact absurd H (by simp)
      · rw [if_neg c5] at H
        have c5b0 : decide (a0_1 < 0) = false := decide_eq_false c5
        clear c5
        replace H := Option.bind_eq_some_iff.mp H
        obtain ⟨t277, A130, H⟩ := H
        replace H : (some (t277, 0)) = some (r1, r2) := H
        have A13 := Aside0.mk A130
        clear A130
        simp only [Option.some.injEq, Prod.mk.injEq] at H
        obtain ⟨rfl, rfl⟩ := H
        go_enter Tryz.func11, Tryz.ntmps11
        go_wp2_with (first | ((with_reducible refine gate_dst (N := 1) rfl ?_); refine box_event ?hg (N := 1) ?hd (cs := #[.int .i64 a0_0, .int .i64 a0_1, .string a0_2, .bool a0_3]) (t := 27) ?hr ?_; (case hd => rfl); (case hg => rfl); (case hr => first | (go_simp; done) | (go_simp; rfl)); intro gb274 hg w14 hbox hb; have BK274 := Aside0.mk hbox; have GW274 := geA hg HB; have GE274 := geA hg HB; replace HB := bsA HB hb; clear hb hbox hg; have hcz15_0 : w14.cell? ⟨gb274, 0, none⟩ = some (.int .i64 a0_0) := (blk_cell BK274.out 0).trans rfl; have hcz15_1 : w14.cell? ⟨gb274, 1, none⟩ = some (.int .i64 a0_1) := (blk_cell BK274.out 1).trans rfl; have hcz15_2 : w14.cell? ⟨gb274, 2, none⟩ = some (.string a0_2) := (blk_cell BK274.out 2).trans rfl; have hcz15_3 : w14.cell? ⟨gb274, 3, none⟩ = some (.bool a0_3) := (blk_cell BK274.out 3).trans rfl; have hfz15_0 := blk_frozen BK274.out 0; have hfz15_1 := blk_frozen BK274.out 1; have hfz15_2 := blk_frozen BK274.out 2; have hfz15_3 := blk_frozen BK274.out 3) | ((with_reducible refine gate_callee (f := 10) rfl ?_); refine goesT (some 6) Tryz.func10 #[.agg #[.int .i64 a0_0, .int .i64 a0_1, .string a0_2, .bool a0_3]] ?_; (with_reducible refine (refrainref1_Valid.calls a0_0 a0_1 a0_2 a0_3 true _ A2.out).mono ?_); rintro e w16 ⟨rfl, hb⟩; refine ⟨_, rfl, ?_⟩; replace BK274 := bbA BK274 hb; replace HB := bsA HB hb; (try clear hb); (try clear hb2); (try clear hk); (try clear hi); have hcz17_0 : w16.cell? ⟨gb274, 0, none⟩ = some (.int .i64 a0_0) := (blk_cell BK274.out 0).trans rfl; have hcz17_1 : w16.cell? ⟨gb274, 1, none⟩ = some (.int .i64 a0_1) := (blk_cell BK274.out 1).trans rfl; have hcz17_2 : w16.cell? ⟨gb274, 2, none⟩ = some (.string a0_2) := (blk_cell BK274.out 2).trans rfl; have hcz17_3 : w16.cell? ⟨gb274, 3, none⟩ = some (.bool a0_3) := (blk_cell BK274.out 3).trans rfl; have hfz17_0 := blk_frozen BK274.out 0; have hfz17_1 := blk_frozen BK274.out 1; have hfz17_2 := blk_frozen BK274.out 2; have hfz17_3 := blk_frozen BK274.out 3) | ((with_reducible refine gate_callee (f := 28) rfl ?_); refine goesT (some 27) Tryz.func28 #[.int .u64 (IntKind.u64.wrap (a0_1))] ?_; (with_reducible refine (refrainref1_digits.calls k (IntKind.u64.wrap (a0_1)) t277 _ A13.out).mono ?_); rintro e w18 ⟨rfl, hb⟩; refine ⟨_, rfl, ?_⟩; replace BK274 := bbA BK274 hb; replace HB := bsA HB hb; (try clear hb); (try clear hb2); (try clear hk); (try clear hi)))
        go_ret2
        exact ⟨by first | rfl | (simp [errW_none, errW_some] <;> rfl) | (simp [*, errW_none, errW_some] <;> rfl), hbT HB.out⟩
    · rw [if_neg c4] at H
      have c4b0 : (a0_0 == 1) = false := beq_eq_false_iff_ne.mpr c4
      have c4b1 : (a0_0 != 1) = true := bne_iff_ne.mpr c4
      by_cases c19 : a0_0 = 2
      · rw [if_pos c19] at H
        have c19b0 : (a0_0 == 2) = true := beq_iff_eq.mpr c19
        have c19b1 : (a0_0 != 2) = false := bne_eq_false_iff_eq.mpr c19
        clear c19
        replace H := Option.bind_eq_some_iff.mp H
        obtain ⟨t278, A200, H⟩ := H
        replace H : (some (t278, 0)) = some (r1, r2) := H
        have A20 := Aside0.mk A200
        clear A200
        simp only [Option.some.injEq, Prod.mk.injEq] at H
        obtain ⟨rfl, rfl⟩ := H
        go_enter Tryz.func11, Tryz.ntmps11
        go_wp2_with (first | ((with_reducible refine gate_dst (N := 1) rfl ?_); refine box_event ?hg (N := 1) ?hd (cs := #[.int .i64 a0_0, .int .i64 a0_1, .string a0_2, .bool a0_3]) (t := 27) ?hr ?_; (case hd => rfl); (case hg => rfl); (case hr => first | (go_simp; done) | (go_simp; rfl)); intro gb274 hg w21 hbox hb; have BK274 := Aside0.mk hbox; have GW274 := geA hg HB; have GE274 := geA hg HB; replace HB := bsA HB hb; clear hb hbox hg; have hcz22_0 : w21.cell? ⟨gb274, 0, none⟩ = some (.int .i64 a0_0) := (blk_cell BK274.out 0).trans rfl; have hcz22_1 : w21.cell? ⟨gb274, 1, none⟩ = some (.int .i64 a0_1) := (blk_cell BK274.out 1).trans rfl; have hcz22_2 : w21.cell? ⟨gb274, 2, none⟩ = some (.string a0_2) := (blk_cell BK274.out 2).trans rfl; have hcz22_3 : w21.cell? ⟨gb274, 3, none⟩ = some (.bool a0_3) := (blk_cell BK274.out 3).trans rfl; have hfz22_0 := blk_frozen BK274.out 0; have hfz22_1 := blk_frozen BK274.out 1; have hfz22_2 := blk_frozen BK274.out 2; have hfz22_3 := blk_frozen BK274.out 3) | ((with_reducible refine gate_callee (f := 10) rfl ?_); refine goesT (some 6) Tryz.func10 #[.agg #[.int .i64 a0_0, .int .i64 a0_1, .string a0_2, .bool a0_3]] ?_; (with_reducible refine (refrainref1_Valid.calls a0_0 a0_1 a0_2 a0_3 true _ A2.out).mono ?_); rintro e w23 ⟨rfl, hb⟩; refine ⟨_, rfl, ?_⟩; replace BK274 := bbA BK274 hb; replace HB := bsA HB hb; (try clear hb); (try clear hb2); (try clear hk); (try clear hi); have hcz24_0 : w23.cell? ⟨gb274, 0, none⟩ = some (.int .i64 a0_0) := (blk_cell BK274.out 0).trans rfl; have hcz24_1 : w23.cell? ⟨gb274, 1, none⟩ = some (.int .i64 a0_1) := (blk_cell BK274.out 1).trans rfl; have hcz24_2 : w23.cell? ⟨gb274, 2, none⟩ = some (.string a0_2) := (blk_cell BK274.out 2).trans rfl; have hcz24_3 : w23.cell? ⟨gb274, 3, none⟩ = some (.bool a0_3) := (blk_cell BK274.out 3).trans rfl; have hfz24_0 := blk_frozen BK274.out 0; have hfz24_1 := blk_frozen BK274.out 1; have hfz24_2 := blk_frozen BK274.out 2; have hfz24_3 := blk_frozen BK274.out 3) | ((with_reducible refine gate_callee (f := 29) rfl ?_); refine goesT (some 32) Tryz.func29 #[.string a0_2] ?_; (with_reducible refine (refrainref1_quoted.calls k a0_2 t278 _ A20.out).mono ?_); rintro e w25 ⟨rfl, hb⟩; refine ⟨_, rfl, ?_⟩; replace BK274 := bbA BK274 hb; replace HB := bsA HB hb; (try clear hb); (try clear hb2); (try clear hk); (try clear hi)))
        go_ret2
        exact ⟨by first | rfl | (simp [errW_none, errW_some] <;> rfl) | (simp [*, errW_none, errW_some] <;> rfl), hbT HB.out⟩
      · rw [if_neg c19] at H
        have c19b0 : (a0_0 == 2) = false := beq_eq_false_iff_ne.mpr c19
        have c19b1 : (a0_0 != 2) = true := bne_iff_ne.mpr c19
        by_cases c26 : a0_3 = true
        · subst c26
          have H1 : (some ((⟨#[84, 82, 85, 69]⟩ : ByteArray), 0)) = some (r1, r2) := by rw [if_pos rfl] at H; exact H
          clear H
          have H := H1
          clear H1
          simp only [Option.some.injEq, Prod.mk.injEq] at H
          obtain ⟨rfl, rfl⟩ := H
          go_enter Tryz.func11, Tryz.ntmps11
          go_wp2_with (first | ((with_reducible refine gate_dst (N := 1) rfl ?_); refine box_event ?hg (N := 1) ?hd (cs := #[.int .i64 a0_0, .int .i64 a0_1, .string a0_2, .bool true]) (t := 27) ?hr ?_; (case hd => rfl); (case hg => rfl); (case hr => first | (go_simp; done) | (go_simp; rfl)); intro gb274 hg w27 hbox hb; have BK274 := Aside0.mk hbox; have GW274 := geA hg HB; have GE274 := geA hg HB; replace HB := bsA HB hb; clear hb hbox hg; have hcz28_0 : w27.cell? ⟨gb274, 0, none⟩ = some (.int .i64 a0_0) := (blk_cell BK274.out 0).trans rfl; have hcz28_1 : w27.cell? ⟨gb274, 1, none⟩ = some (.int .i64 a0_1) := (blk_cell BK274.out 1).trans rfl; have hcz28_2 : w27.cell? ⟨gb274, 2, none⟩ = some (.string a0_2) := (blk_cell BK274.out 2).trans rfl; have hcz28_3 : w27.cell? ⟨gb274, 3, none⟩ = some (.bool true) := (blk_cell BK274.out 3).trans rfl; have hfz28_0 := blk_frozen BK274.out 0; have hfz28_1 := blk_frozen BK274.out 1; have hfz28_2 := blk_frozen BK274.out 2; have hfz28_3 := blk_frozen BK274.out 3) | ((with_reducible refine gate_callee (f := 10) rfl ?_); refine goesT (some 6) Tryz.func10 #[.agg #[.int .i64 a0_0, .int .i64 a0_1, .string a0_2, .bool true]] ?_; (with_reducible refine (refrainref1_Valid.calls a0_0 a0_1 a0_2 true true _ A2.out).mono ?_); rintro e w29 ⟨rfl, hb⟩; refine ⟨_, rfl, ?_⟩; replace BK274 := bbA BK274 hb; replace HB := bsA HB hb; (try clear hb); (try clear hb2); (try clear hk); (try clear hi); have hcz30_0 : w29.cell? ⟨gb274, 0, none⟩ = some (.int .i64 a0_0) := (blk_cell BK274.out 0).trans rfl; have hcz30_1 : w29.cell? ⟨gb274, 1, none⟩ = some (.int .i64 a0_1) := (blk_cell BK274.out 1).trans rfl; have hcz30_2 : w29.cell? ⟨gb274, 2, none⟩ = some (.string a0_2) := (blk_cell BK274.out 2).trans rfl; have hcz30_3 : w29.cell? ⟨gb274, 3, none⟩ = some (.bool true) := (blk_cell BK274.out 3).trans rfl; have hfz30_0 := blk_frozen BK274.out 0; have hfz30_1 := blk_frozen BK274.out 1; have hfz30_2 := blk_frozen BK274.out 2; have hfz30_3 := blk_frozen BK274.out 3))
          go_ret2
          exact ⟨by first | rfl | (simp [errW_none, errW_some] <;> rfl) | (simp [*, errW_none, errW_some] <;> rfl), hbT HB.out⟩
        · replace c26 := Bool.eq_false_iff.mpr c26
          subst c26
          have H1 : (some ((⟨#[70, 65, 76, 83, 69]⟩ : ByteArray), 0)) = some (r1, r2) := by rw [if_neg (show ¬ (false = true) by decide)] at H; exact H
          clear H
          have H := H1
          clear H1
          simp only [Option.some.injEq, Prod.mk.injEq] at H
          obtain ⟨rfl, rfl⟩ := H
          go_enter Tryz.func11, Tryz.ntmps11
          go_wp2_with (first | ((with_reducible refine gate_dst (N := 1) rfl ?_); refine box_event ?hg (N := 1) ?hd (cs := #[.int .i64 a0_0, .int .i64 a0_1, .string a0_2, .bool false]) (t := 27) ?hr ?_; (case hd => rfl); (case hg => rfl); (case hr => first | (go_simp; done) | (go_simp; rfl)); intro gb274 hg w31 hbox hb; have BK274 := Aside0.mk hbox; have GW274 := geA hg HB; have GE274 := geA hg HB; replace HB := bsA HB hb; clear hb hbox hg; have hcz32_0 : w31.cell? ⟨gb274, 0, none⟩ = some (.int .i64 a0_0) := (blk_cell BK274.out 0).trans rfl; have hcz32_1 : w31.cell? ⟨gb274, 1, none⟩ = some (.int .i64 a0_1) := (blk_cell BK274.out 1).trans rfl; have hcz32_2 : w31.cell? ⟨gb274, 2, none⟩ = some (.string a0_2) := (blk_cell BK274.out 2).trans rfl; have hcz32_3 : w31.cell? ⟨gb274, 3, none⟩ = some (.bool false) := (blk_cell BK274.out 3).trans rfl; have hfz32_0 := blk_frozen BK274.out 0; have hfz32_1 := blk_frozen BK274.out 1; have hfz32_2 := blk_frozen BK274.out 2; have hfz32_3 := blk_frozen BK274.out 3) | ((with_reducible refine gate_callee (f := 10) rfl ?_); refine goesT (some 6) Tryz.func10 #[.agg #[.int .i64 a0_0, .int .i64 a0_1, .string a0_2, .bool false]] ?_; (with_reducible refine (refrainref1_Valid.calls a0_0 a0_1 a0_2 false true _ A2.out).mono ?_); rintro e w33 ⟨rfl, hb⟩; refine ⟨_, rfl, ?_⟩; replace BK274 := bbA BK274 hb; replace HB := bsA HB hb; (try clear hb); (try clear hb2); (try clear hk); (try clear hi); have hcz34_0 : w33.cell? ⟨gb274, 0, none⟩ = some (.int .i64 a0_0) := (blk_cell BK274.out 0).trans rfl; have hcz34_1 : w33.cell? ⟨gb274, 1, none⟩ = some (.int .i64 a0_1) := (blk_cell BK274.out 1).trans rfl; have hcz34_2 : w33.cell? ⟨gb274, 2, none⟩ = some (.string a0_2) := (blk_cell BK274.out 2).trans rfl; have hcz34_3 : w33.cell? ⟨gb274, 3, none⟩ = some (.bool false) := (blk_cell BK274.out 3).trans rfl; have hfz34_0 := blk_frozen BK274.out 0; have hfz34_1 := blk_frozen BK274.out 1; have hfz34_2 := blk_frozen BK274.out 2; have hfz34_3 := blk_frozen BK274.out 3))
          go_ret2
          exact ⟨by first | rfl | (simp [errW_none, errW_some] <;> rfl) | (simp [*, errW_none, errW_some] <;> rfl), hbT HB.out⟩
  · replace c3 := Bool.eq_false_iff.mpr c3
    subst c3
    have H1 : (some ((⟨#[]⟩ : ByteArray), 12)) = some (r1, r2) := by rw [if_neg (show ¬ (false = true) by decide)] at H; exact H
    clear H
    have H := H1
    clear H1
    simp only [Option.some.injEq, Prod.mk.injEq] at H
    obtain ⟨rfl, rfl⟩ := H
    go_enter Tryz.func11, Tryz.ntmps11
    go_wp2_with (first | ((with_reducible refine gate_dst (N := 1) rfl ?_); refine box_event ?hg (N := 1) ?hd (cs := #[.int .i64 a0_0, .int .i64 a0_1, .string a0_2, .bool a0_3]) (t := 27) ?hr ?_; (case hd => rfl); (case hg => rfl); (case hr => first | (go_simp; done) | (go_simp; rfl)); intro gb274 hg w35 hbox hb; have BK274 := Aside0.mk hbox; have GW274 := geA hg HB; have GE274 := geA hg HB; replace HB := bsA HB hb; clear hb hbox hg; have hcz36_0 : w35.cell? ⟨gb274, 0, none⟩ = some (.int .i64 a0_0) := (blk_cell BK274.out 0).trans rfl; have hcz36_1 : w35.cell? ⟨gb274, 1, none⟩ = some (.int .i64 a0_1) := (blk_cell BK274.out 1).trans rfl; have hcz36_2 : w35.cell? ⟨gb274, 2, none⟩ = some (.string a0_2) := (blk_cell BK274.out 2).trans rfl; have hcz36_3 : w35.cell? ⟨gb274, 3, none⟩ = some (.bool a0_3) := (blk_cell BK274.out 3).trans rfl; have hfz36_0 := blk_frozen BK274.out 0; have hfz36_1 := blk_frozen BK274.out 1; have hfz36_2 := blk_frozen BK274.out 2; have hfz36_3 := blk_frozen BK274.out 3) | ((with_reducible refine gate_callee (f := 10) rfl ?_); refine goesT (some 6) Tryz.func10 #[.agg #[.int .i64 a0_0, .int .i64 a0_1, .string a0_2, .bool a0_3]] ?_; (with_reducible refine (refrainref1_Valid.calls a0_0 a0_1 a0_2 a0_3 false _ A2.out).mono ?_); rintro e w37 ⟨rfl, hb⟩; refine ⟨_, rfl, ?_⟩; replace BK274 := bbA BK274 hb; replace HB := bsA HB hb; (try clear hb); (try clear hb2); (try clear hk); (try clear hi)))
    go_ret2
    exact ⟨by first | rfl | (simp [errW_none, errW_some] <;> rfl) | (simp [*, errW_none, errW_some] <;> rfl), hbT HB.out⟩

/-! ### refrainref1_guessed: function 30 -/
def refrainref1_guessed.l0 : Nat → ByteArray → Int → Int → Option (Int × Int × ByteArray × Bool)
  | 0, _, _, _ => none
  | k + 1, x0, x3, x4 => if x4 < (x0.size : Int) then (if 0 ≤ x4 then (if (bt x0 x4) ≥ 48 then (if (bt x0 x4) ≤ 57 then (refrainref1_guessed.l0 k x0 (IntKind.u64.wrap ((IntKind.u64.wrap (x3 * 10)) + (((bt x0 x4) - 48) % 256))) (wrap64 (x4 + 1))) else (refrainref1_guessed.l0 k x0 x3 (wrap64 (x4 + 1)))) else (refrainref1_guessed.l0 k x0 x3 (wrap64 (x4 + 1)))) else (none)) else (if (x0.size : Int) > 0 then (if 0 < (x0.size : Int) then (if (bt x0 0) = 45 then (some (1, wrap64 (IntKind.u64.wrap (-x3)), (⟨#[]⟩ : ByteArray), false)) else (some (1, wrap64 (x3), (⟨#[]⟩ : ByteArray), false))) else (none)) else (some (1, wrap64 (x3), (⟨#[]⟩ : ByteArray), false)))
def refrainref1_guessed.f (k : Nat) (a0 : ByteArray) : Option (Int × Int × ByteArray × Bool) := refrainref1_guessed.l0 k a0 0 0
set_option maxRecDepth 100000 in
theorem refrainref1_guessed.l0_zero : ∀ y0 y1 y2, refrainref1_guessed.l0 0 y0 y1 y2 = none := fun _ _ _ => rfl
set_option maxRecDepth 100000 in
theorem refrainref1_guessed.mono_l : ∀ k, (∀ y0 y1 y2, LeO (refrainref1_guessed.l0 k y0 y1 y2) (refrainref1_guessed.l0 (k + 1) y0 y1 y2))
  | 0 => fun _ _ _ r h => by (unfold refrainref1_guessed.l0 at h; cases h)
  | k + 1 => by
    have ih0 := refrainref1_guessed.mono_l k
    · intro y0 y1 y2
      unfold refrainref1_guessed.l0
      repeat' first
      | (with_reducible exact ih0 _ _ _)
      | (with_reducible exact LeO.refl _)
      | (with_reducible exact LeO.none _)
      | (with_reducible refine LeO.ite ?_ ?_)
      | (with_reducible refine LeO.bind ?_ (fun _ => ?_))
      | exact ih0 _ _ _
      | exact LeO.none _
      | refine LeO.ite ?_ ?_
      | refine LeO.bind ?_ (fun _ => ?_)
set_option maxRecDepth 100000 in
theorem refrainref1_guessed.mono : ∀ a0 k, LeO (refrainref1_guessed.f k a0) (refrainref1_guessed.f (k + 1) a0) := by
  intro a0 k
  have ih0 := refrainref1_guessed.mono_l k
  unfold refrainref1_guessed.f
  repeat' first
      | (with_reducible exact ih0 _ _ _)
      | (with_reducible exact LeO.refl _)
      | (with_reducible exact LeO.none _)
      | (with_reducible refine LeO.ite ?_ ?_)
      | (with_reducible refine LeO.bind ?_ (fun _ => ?_))
      | exact ih0 _ _ _
      | exact LeO.none _
      | refine LeO.ite ?_ ?_
      | refine LeO.bind ?_ (fun _ => ?_)
set_option maxHeartbeats 8000000 in
set_option maxRecDepth 100000 in
theorem refrainref1_guessed.calls (k : Nat) (a0 : ByteArray) (r1 : Int) (r2 : Int) (r3 : ByteArray) (r4 : Bool) (w : World) (h : refrainref1_guessed.f k a0 = some (r1, r2, r3, r4)) :
    Calls Tryz.prog 30 #[.string a0] w fun e w' => e = .returned (.agg #[.int .i64 r1, .int .i64 r2, .string r3, .bool r4]) ∧ Below w.heap.size w w' := by
  have hu27 := Tryz.underlying27
  have HB := Aside0.mk (Below.refl w.heap.size w)
  have H : (refrainref1_guessed.l0 k a0 0 0) = some (r1, r2, r3, r4) := h
  clear h
  have H' := Aside0.mk H
  clear H
  go_enter Tryz.func30, Tryz.ntmps30
  go_wp2_with (first | ((with_reducible refine gate_dst (N := 2) rfl ?_); refine box_event ?hg (N := 2) ?hd (cs := #[.int .i64 0, .int .i64 0, .string (⟨#[]⟩ : ByteArray), .bool false]) (t := 27) ?hr ?_; (case hd => rfl); (case hg => rfl); (case hr => first | (go_simp; done) | (go_simp; rfl)); intro gb279 hg w2 hbox hb; have BK279 := Aside0.mk hbox; have GW279 := geA hg HB; have GE279 := geA hg HB; replace HB := bsA HB hb; clear hb hbox hg))
  go_loopg [3, 4] k (fun kq v3 v4 w' => ∃ (x3_1 : Int) (x4_1 : Int), v3 = .int .u64 x3_1 ∧ v4 = .int .i64 x4_1 ∧ Aside0 (refrainref1_guessed.l0 kq a0 x3_1 x4_1 = some (r1, r2, r3, r4)) ∧ Aside0 (kq ≤ k) ∧ Aside0 (w'.heap[gb279]? = some (.cells #[.int .i64 0, .int .i64 0, .string (⟨#[]⟩ : ByteArray), .bool false] 27 (0, 0))) ∧ Aside0 (Below w.heap.size w w'))
  case atStart => exact ⟨(0), (0), (by first | rfl | (simp; done) | (simp [*]; done) | (simp; unfold wrap64; omega) | (congr 1; (try rw [Bool.eq_iff_iff]); simp [List.isEmpty_iff]; done)), (by first | rfl | (simp; done) | (simp [*]; done) | (simp; unfold wrap64; omega) | (congr 1; (try rw [Bool.eq_iff_iff]); simp [List.isEmpty_iff]; done)), H', ⟨Nat.le_refl _⟩, ⟨bkT BK279.out⟩, ⟨hbT HB.out⟩⟩
  case round =>
    clear H'
    try clear p2
    obtain ⟨x3_1, x4_1, rfl, rfl, HA, HK1, BK279, HB⟩ := hrel
    cases gk with
    | zero => (have HA2 := HA.out; clear HA; revert HA2; rw [refrainref1_guessed.l0_zero]; intro h_; cases h_)
    | succ k1 =>
      have H := HA.out
      clear HA
      simp only [refrainref1_guessed.l0] at H
      by_cases c3 : x4_1 < (a0.size : Int)
      · rw [if_pos c3] at H
        have c3b0 : decide (x4_1 < (a0.size : Int)) = true := decide_eq_true c3
        clear c3
        by_cases c4 : 0 ≤ x4_1
        · rw [if_pos c4] at H
          have c4b0 : decide (0 ≤ x4_1) = true := decide_eq_true c4
          clear c4
          by_cases c6 : (bt a0 x4_1) ≥ 48
          · rw [if_pos c6] at H
            have c6b0 : decide (48 ≤ (bt a0 x4_1)) = true := decide_eq_true c6
            clear c6
            by_cases c8 : (bt a0 x4_1) ≤ 57
            · rw [if_pos c8] at H
              have c8b0 : decide ((bt a0 x4_1) ≤ 57) = true := decide_eq_true c8
              clear c8
              have H' := Aside0.mk H
              clear H
              have p5 : 0 ≤ (x4_1 : Int) := of_decide_eq_true (by first | (with_reducible assumption) | assumption)
              have q5 : x4_1 < (a0.size : Int) := of_decide_eq_true (by first | (with_reducible assumption) | assumption)
              have hx5 := bt_at a0 x4_1
              replace p5 := eq_true p5
              replace q5 := eq_true q5
              have p7 : 0 ≤ (x4_1 : Int) := of_decide_eq_true (by first | (with_reducible assumption) | assumption)
              have q7 : x4_1 < (a0.size : Int) := of_decide_eq_true (by first | (with_reducible assumption) | assumption)
              have hx7 := bt_at a0 x4_1
              replace p7 := eq_true p7
              replace q7 := eq_true q7
              have p9 : 0 ≤ (x4_1 : Int) := of_decide_eq_true (by first | (with_reducible assumption) | assumption)
              have q9 : x4_1 < (a0.size : Int) := of_decide_eq_true (by first | (with_reducible assumption) | assumption)
              have hx9 := bt_at a0 x4_1
              replace p9 := eq_true p9
              replace q9 := eq_true q9
              go_wp2
              go_roundg k1
              case measure => have := HK1.out; omega
              case rel => exact ⟨(IntKind.u64.wrap ((IntKind.u64.wrap (x3_1 * 10)) + (((bt a0 x4_1) - 48) % 256))), (wrap64 (x4_1 + 1)), (by first | rfl | (simp; done) | (simp [*]; done) | (simp; unfold wrap64; omega) | (congr 1; (try rw [Bool.eq_iff_iff]); simp [List.isEmpty_iff]; done)), (by first | rfl | (simp; done) | (simp [*]; done) | (simp; unfold wrap64; omega) | (congr 1; (try rw [Bool.eq_iff_iff]); simp [List.isEmpty_iff]; done)), H', ⟨by have := HK1.out; omega⟩, ⟨bkT BK279.out⟩, ⟨hbT HB.out⟩⟩
            · rw [if_neg c8] at H
              have c8b0 : decide ((bt a0 x4_1) ≤ 57) = false := decide_eq_false c8
              clear c8
              have H' := Aside0.mk H
              clear H
              have p5 : 0 ≤ (x4_1 : Int) := of_decide_eq_true (by first | (with_reducible assumption) | assumption)
              have q5 : x4_1 < (a0.size : Int) := of_decide_eq_true (by first | (with_reducible assumption) | assumption)
              have hx5 := bt_at a0 x4_1
              replace p5 := eq_true p5
              replace q5 := eq_true q5
              have p7 : 0 ≤ (x4_1 : Int) := of_decide_eq_true (by first | (with_reducible assumption) | assumption)
              have q7 : x4_1 < (a0.size : Int) := of_decide_eq_true (by first | (with_reducible assumption) | assumption)
              have hx7 := bt_at a0 x4_1
              replace p7 := eq_true p7
              replace q7 := eq_true q7
              go_wp2
              go_roundg k1
              case measure => have := HK1.out; omega
              case rel => exact ⟨(x3_1), (wrap64 (x4_1 + 1)), (by first | rfl | (simp; done) | (simp [*]; done) | (simp; unfold wrap64; omega) | (congr 1; (try rw [Bool.eq_iff_iff]); simp [List.isEmpty_iff]; done)), (by first | rfl | (simp; done) | (simp [*]; done) | (simp; unfold wrap64; omega) | (congr 1; (try rw [Bool.eq_iff_iff]); simp [List.isEmpty_iff]; done)), H', ⟨by have := HK1.out; omega⟩, ⟨bkT BK279.out⟩, ⟨hbT HB.out⟩⟩
          · rw [if_neg c6] at H
            have c6b0 : decide (48 ≤ (bt a0 x4_1)) = false := decide_eq_false c6
            clear c6
            have H' := Aside0.mk H
            clear H
            have p5 : 0 ≤ (x4_1 : Int) := of_decide_eq_true (by first | (with_reducible assumption) | assumption)
            have q5 : x4_1 < (a0.size : Int) := of_decide_eq_true (by first | (with_reducible assumption) | assumption)
            have hx5 := bt_at a0 x4_1
            replace p5 := eq_true p5
            replace q5 := eq_true q5
            go_wp2
            go_roundg k1
            case measure => have := HK1.out; omega
            case rel => exact ⟨(x3_1), (wrap64 (x4_1 + 1)), (by first | rfl | (simp; done) | (simp [*]; done) | (simp; unfold wrap64; omega) | (congr 1; (try rw [Bool.eq_iff_iff]); simp [List.isEmpty_iff]; done)), (by first | rfl | (simp; done) | (simp [*]; done) | (simp; unfold wrap64; omega) | (congr 1; (try rw [Bool.eq_iff_iff]); simp [List.isEmpty_iff]; done)), H', ⟨by have := HK1.out; omega⟩, ⟨bkT BK279.out⟩, ⟨hbT HB.out⟩⟩
        · rw [if_neg c4] at H
          exact absurd H (by simp)
      · rw [if_neg c3] at H
        have c3b0 : decide (x4_1 < (a0.size : Int)) = false := decide_eq_false c3
        clear c3
        by_cases c10 : (a0.size : Int) > 0
        · rw [if_pos c10] at H
          have c10b0 : decide (0 < (a0.size : Int)) = true := decide_eq_true c10
          have c10b1 : decide (0 < a0.size) = true := decide_eq_true (by omega)
          clear c10
          by_cases c11 : 0 < (a0.size : Int)
          · rw [if_pos c11] at H
            have c11b0 : decide (0 < (a0.size : Int)) = true := decide_eq_true c11
            have c11b1 : decide (0 < a0.size) = true := decide_eq_true (by omega)
            clear c11
            by_cases c13 : (bt a0 0) = 45
            · rw [if_pos c13] at H
              have c13b0 : ((bt a0 0) == 45) = true := beq_iff_eq.mpr c13
              have c13b1 : ((bt a0 0) != 45) = false := bne_eq_false_iff_eq.mpr c13
              clear c13
              simp only [Option.some.injEq, Prod.mk.injEq] at H
              obtain ⟨rfl, rfl, rfl, rfl⟩ := H
              have p12 : 0 ≤ (0 : Int) := (by omega)
              have q12 : 0 < a0.size := (by have : (0 : Int) < (a0.size : Int) := of_decide_eq_true (by first | (with_reducible assumption) | assumption); omega)
              have hx12 : ∀ h : 0 < a0.size, ((a0[0]'h).toNat : Int) = bt a0 0 := bt_at a0 0
              clear p12
              have qi12 : (0 < (a0.size : Int)) = True := eq_true (of_decide_eq_true (by first | (with_reducible assumption) | assumption))
              replace q12 := eq_true q12
              have hcz14_0 : wr.cell? ⟨gb279, 0, none⟩ = some (.int .i64 0) := (blk_cell BK279.out 0).trans rfl; have hcz14_1 : wr.cell? ⟨gb279, 1, none⟩ = some (.int .i64 0) := (blk_cell BK279.out 1).trans rfl; have hcz14_2 : wr.cell? ⟨gb279, 2, none⟩ = some (.string (⟨#[]⟩ : ByteArray)) := (blk_cell BK279.out 2).trans rfl; have hcz14_3 : wr.cell? ⟨gb279, 3, none⟩ = some (.bool false) := (blk_cell BK279.out 3).trans rfl; have hfz14_0 := blk_frozen BK279.out 0; have hfz14_1 := blk_frozen BK279.out 1; have hfz14_2 := blk_frozen BK279.out 2; have hfz14_3 := blk_frozen BK279.out 3
              go_wp2
              refine bodyPost_ret (results_cell_row rfl _ _ gb279 27 #[.int .i64 1, .int .i64 (wrap64 (IntKind.u64.wrap (-x3_1))), .string (⟨#[]⟩ : ByteArray), .bool false] (0, 0) _ rfl (by (with_reducible repeat (first | refine blk_drewN ?_ _ | refine blk_drew ?_ | refine blk_alloc ?_ _)); refine blk_put (cs := #[.int .i64 1, .int .i64 (wrap64 (IntKind.u64.wrap (-x3_1))), .string (⟨#[]⟩ : ByteArray), .bool false]) ?_ 3 _ rfl; (with_reducible repeat (first | refine blk_drewN ?_ _ | refine blk_drew ?_ | refine blk_alloc ?_ _)); refine blk_put (cs := #[.int .i64 1, .int .i64 (wrap64 (IntKind.u64.wrap (-x3_1))), .string (⟨#[]⟩ : ByteArray), .bool false]) ?_ 2 _ rfl; (with_reducible repeat (first | refine blk_drewN ?_ _ | refine blk_drew ?_ | refine blk_alloc ?_ _)); refine blk_put (cs := #[.int .i64 1, .int .i64 0, .string (⟨#[]⟩ : ByteArray), .bool false]) ?_ 1 _ rfl; (with_reducible repeat (first | refine blk_drewN ?_ _ | refine blk_drew ?_ | refine blk_alloc ?_ _)); refine blk_put (cs := #[.int .i64 0, .int .i64 0, .string (⟨#[]⟩ : ByteArray), .bool false]) ?_ 0 _ rfl; (with_reducible repeat (first | refine blk_drewN ?_ _ | refine blk_drew ?_ | refine blk_alloc ?_ _)); exact BK279.out) Tryz.underlying27 rfl (by kernel_rfl)) rfl ?_
              exact ⟨by first | rfl | (simp [errW_none, errW_some] <;> rfl) | (simp [*, errW_none, errW_some] <;> rfl), hbT HB.out⟩
            · rw [if_neg c13] at H
              have c13b0 : ((bt a0 0) == 45) = false := beq_eq_false_iff_ne.mpr c13
              have c13b1 : ((bt a0 0) != 45) = true := bne_iff_ne.mpr c13
              simp only [Option.some.injEq, Prod.mk.injEq] at H
              obtain ⟨rfl, rfl, rfl, rfl⟩ := H
              have p12 : 0 ≤ (0 : Int) := (by omega)
              have q12 : 0 < a0.size := (by have : (0 : Int) < (a0.size : Int) := of_decide_eq_true (by first | (with_reducible assumption) | assumption); omega)
              have hx12 : ∀ h : 0 < a0.size, ((a0[0]'h).toNat : Int) = bt a0 0 := bt_at a0 0
              clear p12
              have qi12 : (0 < (a0.size : Int)) = True := eq_true (of_decide_eq_true (by first | (with_reducible assumption) | assumption))
              replace q12 := eq_true q12
              have hcz15_0 : wr.cell? ⟨gb279, 0, none⟩ = some (.int .i64 0) := (blk_cell BK279.out 0).trans rfl; have hcz15_1 : wr.cell? ⟨gb279, 1, none⟩ = some (.int .i64 0) := (blk_cell BK279.out 1).trans rfl; have hcz15_2 : wr.cell? ⟨gb279, 2, none⟩ = some (.string (⟨#[]⟩ : ByteArray)) := (blk_cell BK279.out 2).trans rfl; have hcz15_3 : wr.cell? ⟨gb279, 3, none⟩ = some (.bool false) := (blk_cell BK279.out 3).trans rfl; have hfz15_0 := blk_frozen BK279.out 0; have hfz15_1 := blk_frozen BK279.out 1; have hfz15_2 := blk_frozen BK279.out 2; have hfz15_3 := blk_frozen BK279.out 3
              go_wp2
              refine bodyPost_ret (results_cell_row rfl _ _ gb279 27 #[.int .i64 1, .int .i64 (wrap64 (x3_1)), .string (⟨#[]⟩ : ByteArray), .bool false] (0, 0) _ rfl (by (with_reducible repeat (first | refine blk_drewN ?_ _ | refine blk_drew ?_ | refine blk_alloc ?_ _)); refine blk_put (cs := #[.int .i64 1, .int .i64 (wrap64 (x3_1)), .string (⟨#[]⟩ : ByteArray), .bool false]) ?_ 3 _ rfl; (with_reducible repeat (first | refine blk_drewN ?_ _ | refine blk_drew ?_ | refine blk_alloc ?_ _)); refine blk_put (cs := #[.int .i64 1, .int .i64 (wrap64 (x3_1)), .string (⟨#[]⟩ : ByteArray), .bool false]) ?_ 2 _ rfl; (with_reducible repeat (first | refine blk_drewN ?_ _ | refine blk_drew ?_ | refine blk_alloc ?_ _)); refine blk_put (cs := #[.int .i64 1, .int .i64 0, .string (⟨#[]⟩ : ByteArray), .bool false]) ?_ 1 _ rfl; (with_reducible repeat (first | refine blk_drewN ?_ _ | refine blk_drew ?_ | refine blk_alloc ?_ _)); refine blk_put (cs := #[.int .i64 0, .int .i64 0, .string (⟨#[]⟩ : ByteArray), .bool false]) ?_ 0 _ rfl; (with_reducible repeat (first | refine blk_drewN ?_ _ | refine blk_drew ?_ | refine blk_alloc ?_ _)); exact BK279.out) Tryz.underlying27 rfl (by kernel_rfl)) rfl ?_
              exact ⟨by first | rfl | (simp [errW_none, errW_some] <;> rfl) | (simp [*, errW_none, errW_some] <;> rfl), hbT HB.out⟩
          · rw [if_neg c11] at H
            exact absurd H (by simp)
        · rw [if_neg c10] at H
          have c10b0 : decide (0 < (a0.size : Int)) = false := decide_eq_false c10
          have c10b1 : decide (0 < a0.size) = false := decide_eq_false (by omega)
          clear c10
          simp only [Option.some.injEq, Prod.mk.injEq] at H
          obtain ⟨rfl, rfl, rfl, rfl⟩ := H
          have hcz16_0 : wr.cell? ⟨gb279, 0, none⟩ = some (.int .i64 0) := (blk_cell BK279.out 0).trans rfl; have hcz16_1 : wr.cell? ⟨gb279, 1, none⟩ = some (.int .i64 0) := (blk_cell BK279.out 1).trans rfl; have hcz16_2 : wr.cell? ⟨gb279, 2, none⟩ = some (.string (⟨#[]⟩ : ByteArray)) := (blk_cell BK279.out 2).trans rfl; have hcz16_3 : wr.cell? ⟨gb279, 3, none⟩ = some (.bool false) := (blk_cell BK279.out 3).trans rfl; have hfz16_0 := blk_frozen BK279.out 0; have hfz16_1 := blk_frozen BK279.out 1; have hfz16_2 := blk_frozen BK279.out 2; have hfz16_3 := blk_frozen BK279.out 3
          go_wp2
          refine bodyPost_ret (results_cell_row rfl _ _ gb279 27 #[.int .i64 1, .int .i64 (wrap64 (x3_1)), .string (⟨#[]⟩ : ByteArray), .bool false] (0, 0) _ rfl (by (with_reducible repeat (first | refine blk_drewN ?_ _ | refine blk_drew ?_ | refine blk_alloc ?_ _)); refine blk_put (cs := #[.int .i64 1, .int .i64 (wrap64 (x3_1)), .string (⟨#[]⟩ : ByteArray), .bool false]) ?_ 3 _ rfl; (with_reducible repeat (first | refine blk_drewN ?_ _ | refine blk_drew ?_ | refine blk_alloc ?_ _)); refine blk_put (cs := #[.int .i64 1, .int .i64 (wrap64 (x3_1)), .string (⟨#[]⟩ : ByteArray), .bool false]) ?_ 2 _ rfl; (with_reducible repeat (first | refine blk_drewN ?_ _ | refine blk_drew ?_ | refine blk_alloc ?_ _)); refine blk_put (cs := #[.int .i64 1, .int .i64 0, .string (⟨#[]⟩ : ByteArray), .bool false]) ?_ 1 _ rfl; (with_reducible repeat (first | refine blk_drewN ?_ _ | refine blk_drew ?_ | refine blk_alloc ?_ _)); refine blk_put (cs := #[.int .i64 0, .int .i64 0, .string (⟨#[]⟩ : ByteArray), .bool false]) ?_ 0 _ rfl; (with_reducible repeat (first | refine blk_drewN ?_ _ | refine blk_drew ?_ | refine blk_alloc ?_ _)); exact BK279.out) Tryz.underlying27 rfl (by kernel_rfl)) rfl ?_
          exact ⟨by first | rfl | (simp [errW_none, errW_some] <;> rfl) | (simp [*, errW_none, errW_some] <;> rfl), hbT HB.out⟩

/-! ### refrainref1_nibble: function 56 -/
def refrainref1_nibble.l0 : Nat → Int → Int → Option (Int)
  | 0, _, _ => none
  | k + 1, x0, x3 => if x3 < 16 then ((refrainref1_Hex.f x3).bind fun t280 => (if t280 = x0 then (some x3) else (refrainref1_nibble.l0 k x0 (wrap64 (x3 + 1))))) else (some 0)
def refrainref1_nibble.f (k : Nat) (a0 : Int) : Option (Int) := refrainref1_nibble.l0 k a0 0
set_option maxRecDepth 100000 in
theorem refrainref1_nibble.l0_zero : ∀ y0 y1, refrainref1_nibble.l0 0 y0 y1 = none := fun _ _ => rfl
set_option maxRecDepth 100000 in
theorem refrainref1_nibble.mono_l : ∀ k, (∀ y0 y1, LeO (refrainref1_nibble.l0 k y0 y1) (refrainref1_nibble.l0 (k + 1) y0 y1))
  | 0 => fun _ _ r h => by (unfold refrainref1_nibble.l0 at h; cases h)
  | k + 1 => by
    have ih0 := refrainref1_nibble.mono_l k
    · intro y0 y1
      unfold refrainref1_nibble.l0
      repeat' first
      | (with_reducible exact ih0 _ _)
      | (with_reducible exact LeO.refl _)
      | (with_reducible exact LeO.none _)
      | (with_reducible refine LeO.ite ?_ ?_)
      | (with_reducible refine LeO.bind ?_ (fun _ => ?_))
      | exact ih0 _ _
      | exact LeO.none _
      | refine LeO.ite ?_ ?_
      | refine LeO.bind ?_ (fun _ => ?_)
set_option maxRecDepth 100000 in
theorem refrainref1_nibble.mono : ∀ a0 k, LeO (refrainref1_nibble.f k a0) (refrainref1_nibble.f (k + 1) a0) := by
  intro a0 k
  have ih0 := refrainref1_nibble.mono_l k
  unfold refrainref1_nibble.f
  repeat' first
      | (with_reducible exact ih0 _ _)
      | (with_reducible exact LeO.refl _)
      | (with_reducible exact LeO.none _)
      | (with_reducible refine LeO.ite ?_ ?_)
      | (with_reducible refine LeO.bind ?_ (fun _ => ?_))
      | exact ih0 _ _
      | exact LeO.none _
      | refine LeO.ite ?_ ?_
      | refine LeO.bind ?_ (fun _ => ?_)
set_option maxHeartbeats 8000000 in
set_option maxRecDepth 100000 in
theorem refrainref1_nibble.calls (k : Nat) (a0 : Int) (r : Int) (w : World) (h : refrainref1_nibble.f k a0 = some r) :
    Calls Tryz.prog 56 #[.int .u8 a0] w fun e w' => e = .returned (.int .i64 r) ∧ Drawn0 w w' := by
  have H : (refrainref1_nibble.l0 k a0 0) = some r := h
  clear h
  have H' := Aside0.mk H
  clear H
  go_enter Tryz.func56, Tryz.ntmps56
  go_wp2
  go_loopg [3] k (fun kq v3 w' => ∃ (x3_1 : Int), v3 = .int .i64 x3_1 ∧ Aside0 (refrainref1_nibble.l0 kq a0 x3_1 = some r) ∧ Aside0 (kq ≤ k) ∧ Drawn0 w w')
  case atStart => exact ⟨(0), (by first | rfl | (simp; done) | (simp [*]; done) | (simp; unfold wrap64; omega) | (congr 1; (try rw [Bool.eq_iff_iff]); simp [List.isEmpty_iff]; done)), H', ⟨Nat.le_refl _⟩, by repeat (first | exact Drawn0.refl _ | apply Drawn0.step)⟩
  case round =>
    clear H'
    obtain ⟨x3_1, rfl, HA, HK1, ⟨m1, rfl⟩⟩ := hrel
    cases gk with
    | zero => (have HA2 := HA.out; clear HA; revert HA2; rw [refrainref1_nibble.l0_zero]; intro h_; cases h_)
    | succ k1 =>
      have H := HA.out
      clear HA
      simp only [refrainref1_nibble.l0] at H
      by_cases c2 : x3_1 < 16
      · rw [if_pos c2] at H
        have c2b0 : decide (x3_1 < 16) = true := decide_eq_true c2
        clear c2
        replace H := Option.bind_eq_some_iff.mp H
        obtain ⟨t280, A30, H⟩ := H
        replace H : (if t280 = a0 then (some x3_1) else (refrainref1_nibble.l0 k1 a0 (wrap64 (x3_1 + 1)))) = some r := H
        have A3 := Aside0.mk A30
        clear A30
        by_cases c4 : t280 = a0
        · rw [if_pos c4] at H
          have c4b0 : (t280 == a0) = true := beq_iff_eq.mpr c4
          have c4b1 : (t280 != a0) = false := bne_eq_false_iff_eq.mpr c4
          clear c4
          obtain rfl := Option.some.inj H
          go_wp2_with (first | ((with_reducible refine gate_callee (f := 55) rfl ?_); refine goesT (some 9) Tryz.func55 #[.int .i64 x3_1] ?_; (with_reducible refine (refrainref1_Hex.calls x3_1 t280 _ A3.out).mono ?_); rintro e w' ⟨rfl, ⟨nd, rfl⟩⟩; refine ⟨_, rfl, ?_⟩))
          go_ret
          exact ⟨by first | rfl | (simp; done) | (simp [*]; done) | (simp; unfold wrap64; omega) | (congr 1; (try rw [Bool.eq_iff_iff]); simp [List.isEmpty_iff]; done), by repeat (first | exact Drawn0.refl _ | apply Drawn0.step)⟩
        · rw [if_neg c4] at H
          have c4b0 : (t280 == a0) = false := beq_eq_false_iff_ne.mpr c4
          have c4b1 : (t280 != a0) = true := bne_iff_ne.mpr c4
          have H' := Aside0.mk H
          clear H
          go_wp2_with (first | ((with_reducible refine gate_callee (f := 55) rfl ?_); refine goesT (some 9) Tryz.func55 #[.int .i64 x3_1] ?_; (with_reducible refine (refrainref1_Hex.calls x3_1 t280 _ A3.out).mono ?_); rintro e w' ⟨rfl, ⟨nd, rfl⟩⟩; refine ⟨_, rfl, ?_⟩))
          go_roundg k1
          case measure => have := HK1.out; omega
          case rel => exact ⟨(wrap64 (x3_1 + 1)), (by first | rfl | (simp; done) | (simp [*]; done) | (simp; unfold wrap64; omega) | (congr 1; (try rw [Bool.eq_iff_iff]); simp [List.isEmpty_iff]; done)), H', ⟨by have := HK1.out; omega⟩, by repeat (first | exact Drawn0.refl _ | apply Drawn0.step)⟩
      · rw [if_neg c2] at H
        have c2b0 : decide (x3_1 < 16) = false := decide_eq_false c2
        clear c2
        obtain rfl := Option.some.inj H
        go_wp2
        go_ret
        exact ⟨by first | rfl | (simp; done) | (simp [*]; done) | (simp; unfold wrap64; omega) | (congr 1; (try rw [Bool.eq_iff_iff]); simp [List.isEmpty_iff]; done), by repeat (first | exact Drawn0.refl _ | apply Drawn0.step)⟩

/-! ### refrainref1_unquoted: function 31 -/
mutual
def refrainref1_unquoted.l0 : Nat → ByteArray → List Int → Int → Option (Int × Int × ByteArray × Bool)
  | 0, _, _, _ => none
  | k + 1, x0, x3, x4 => if x4 < (wrap64 ((x0.size : Int) - 1)) then (if 0 ≤ x4 then (if x4 < (x0.size : Int) then (if (bt x0 x4) = 92 then (refrainref1_unquoted.j1 k x0 x3 x4 (bt x0 x4) (decide ((wrap64 (x4 + 1)) ≥ (wrap64 ((x0.size : Int) - 1))))) else (refrainref1_unquoted.j1 k x0 x3 x4 (bt x0 x4) true)) else (none)) else (none)) else (some (2, 0, strOfNums x3, false))
def refrainref1_unquoted.j1 : Nat → ByteArray → List Int → Int → Int → Bool → Option (Int × Int × ByteArray × Bool)
  | 0, _, _, _, _, _ => none
  | k + 1, x0, x3, x4, x5, x25 => if x25 = true then (if x3.length < 140737488355328 then (refrainref1_unquoted.l0 k x0 (x3 ++ [x5]) (wrap64 (x4 + 1))) else (none)) else (if 0 ≤ (wrap64 (x4 + 1)) then (if (wrap64 (x4 + 1)) < (x0.size : Int) then (if (bt x0 (wrap64 (x4 + 1))) = 110 then (if x3.length < 140737488355328 then (refrainref1_unquoted.l0 k x0 (x3 ++ [10]) (wrap64 ((wrap64 (x4 + 1)) + 1))) else (none)) else (if (bt x0 (wrap64 (x4 + 1))) = 116 then (if x3.length < 140737488355328 then (refrainref1_unquoted.l0 k x0 (x3 ++ [9]) (wrap64 ((wrap64 (x4 + 1)) + 1))) else (none)) else (if (bt x0 (wrap64 (x4 + 1))) = 120 then (refrainref1_unquoted.j2 k x0 x3 (wrap64 (x4 + 1)) (decide ((wrap64 ((wrap64 (x4 + 1)) + 2)) < (x0.size : Int)))) else (refrainref1_unquoted.j2 k x0 x3 (wrap64 (x4 + 1)) false)))) else (none)) else (none))
def refrainref1_unquoted.j2 : Nat → ByteArray → List Int → Int → Bool → Option (Int × Int × ByteArray × Bool)
  | 0, _, _, _, _ => none
  | k + 1, x0, x3, x4, x54 => if x54 = true then (if 0 ≤ (wrap64 (x4 + 1)) then (if (wrap64 (x4 + 1)) < (x0.size : Int) then ((refrainref1_nibble.f k (bt x0 (wrap64 (x4 + 1)))).bind fun t291 => (if 0 ≤ (wrap64 (x4 + 2)) then (if (wrap64 (x4 + 2)) < (x0.size : Int) then ((refrainref1_nibble.f k (bt x0 (wrap64 (x4 + 2)))).bind fun t292 => (if x3.length < 140737488355328 then (refrainref1_unquoted.l0 k x0 (x3 ++ [(wrap64 ((wrap64 (t291 * 16)) + t292)) % 256]) (wrap64 ((wrap64 (x4 + 2)) + 1))) else (none))) else (none)) else (none))) else (none)) else (none)) else (if 0 ≤ x4 then (if x4 < (x0.size : Int) then (if x3.length < 140737488355328 then (refrainref1_unquoted.l0 k x0 (x3 ++ [bt x0 x4]) (wrap64 (x4 + 1))) else (none)) else (none)) else (none))
end
def refrainref1_unquoted.f (k : Nat) (a0 : ByteArray) : Option (Int × Int × ByteArray × Bool) := refrainref1_unquoted.l0 k a0 ([] : List Int) 1
set_option maxRecDepth 100000 in
theorem refrainref1_unquoted.l0_zero : ∀ y0 y1 y2, refrainref1_unquoted.l0 0 y0 y1 y2 = none := fun _ _ _ => rfl
set_option maxRecDepth 100000 in
theorem refrainref1_unquoted.j1_zero : ∀ y0 y1 y2 y3 y4, refrainref1_unquoted.j1 0 y0 y1 y2 y3 y4 = none := fun _ _ _ _ _ => rfl
set_option maxRecDepth 100000 in
theorem refrainref1_unquoted.j2_zero : ∀ y0 y1 y2 y3, refrainref1_unquoted.j2 0 y0 y1 y2 y3 = none := fun _ _ _ _ => rfl
set_option maxRecDepth 100000 in
theorem refrainref1_unquoted.mono_l : ∀ k, (∀ y0 y1 y2, LeO (refrainref1_unquoted.l0 k y0 y1 y2) (refrainref1_unquoted.l0 (k + 1) y0 y1 y2)) ∧ (∀ y0 y1 y2 y3 y4, LeO (refrainref1_unquoted.j1 k y0 y1 y2 y3 y4) (refrainref1_unquoted.j1 (k + 1) y0 y1 y2 y3 y4)) ∧ (∀ y0 y1 y2 y3, LeO (refrainref1_unquoted.j2 k y0 y1 y2 y3) (refrainref1_unquoted.j2 (k + 1) y0 y1 y2 y3))
  | 0 => ⟨fun _ _ _ r h => by (unfold refrainref1_unquoted.l0 at h; cases h), fun _ _ _ _ _ r h => by (unfold refrainref1_unquoted.j1 at h; cases h), fun _ _ _ _ r h => by (unfold refrainref1_unquoted.j2 at h; cases h)⟩
  | k + 1 => by
    obtain ⟨ih0, ih1, ih2⟩ := refrainref1_unquoted.mono_l k
    refine ⟨?_, ?_, ?_⟩
    · intro y0 y1 y2
      unfold refrainref1_unquoted.l0
      repeat' first
      | (with_reducible exact ih0 _ _ _)
      | (with_reducible exact ih1 _ _ _ _ _)
      | (with_reducible exact ih2 _ _ _ _)
      | (with_reducible exact refrainref1_nibble.mono _ _)
      | (with_reducible exact LeO.refl _)
      | (with_reducible exact LeO.none _)
      | (with_reducible refine LeO.ite ?_ ?_)
      | (with_reducible refine LeO.bind ?_ (fun _ => ?_))
      | exact ih0 _ _ _
      | exact ih1 _ _ _ _ _
      | exact ih2 _ _ _ _
      | exact refrainref1_nibble.mono _ _
      | exact LeO.none _
      | refine LeO.ite ?_ ?_
      | refine LeO.bind ?_ (fun _ => ?_)
    · intro y0 y1 y2 y3 y4
      unfold refrainref1_unquoted.j1
      repeat' first
      | (with_reducible exact ih0 _ _ _)
      | (with_reducible exact ih1 _ _ _ _ _)
      | (with_reducible exact ih2 _ _ _ _)
      | (with_reducible exact refrainref1_nibble.mono _ _)
      | (with_reducible exact LeO.refl _)
      | (with_reducible exact LeO.none _)
      | (with_reducible refine LeO.ite ?_ ?_)
      | (with_reducible refine LeO.bind ?_ (fun _ => ?_))
      | exact ih0 _ _ _
      | exact ih1 _ _ _ _ _
      | exact ih2 _ _ _ _
      | exact refrainref1_nibble.mono _ _
      | exact LeO.none _
      | refine LeO.ite ?_ ?_
      | refine LeO.bind ?_ (fun _ => ?_)
    · intro y0 y1 y2 y3
      unfold refrainref1_unquoted.j2
      repeat' first
      | (with_reducible exact ih0 _ _ _)
      | (with_reducible exact ih1 _ _ _ _ _)
      | (with_reducible exact ih2 _ _ _ _)
      | (with_reducible exact refrainref1_nibble.mono _ _)
      | (with_reducible exact LeO.refl _)
      | (with_reducible exact LeO.none _)
      | (with_reducible refine LeO.ite ?_ ?_)
      | (with_reducible refine LeO.bind ?_ (fun _ => ?_))
      | exact ih0 _ _ _
      | exact ih1 _ _ _ _ _
      | exact ih2 _ _ _ _
      | exact refrainref1_nibble.mono _ _
      | exact LeO.none _
      | refine LeO.ite ?_ ?_
      | refine LeO.bind ?_ (fun _ => ?_)
set_option maxRecDepth 100000 in
theorem refrainref1_unquoted.mono : ∀ a0 k, LeO (refrainref1_unquoted.f k a0) (refrainref1_unquoted.f (k + 1) a0) := by
  intro a0 k
  obtain ⟨ih0, ih1, ih2⟩ := refrainref1_unquoted.mono_l k
  unfold refrainref1_unquoted.f
  repeat' first
      | (with_reducible exact ih0 _ _ _)
      | (with_reducible exact ih1 _ _ _ _ _)
      | (with_reducible exact ih2 _ _ _ _)
      | (with_reducible exact refrainref1_nibble.mono _ _)
      | (with_reducible exact LeO.refl _)
      | (with_reducible exact LeO.none _)
      | (with_reducible refine LeO.ite ?_ ?_)
      | (with_reducible refine LeO.bind ?_ (fun _ => ?_))
      | exact ih0 _ _ _
      | exact ih1 _ _ _ _ _
      | exact ih2 _ _ _ _
      | exact refrainref1_nibble.mono _ _
      | exact LeO.none _
      | refine LeO.ite ?_ ?_
      | refine LeO.bind ?_ (fun _ => ?_)
def refrainref1_unquoted.T15 : Bool × List (List Nat × List Nat) := (true, [([], []), ([], []), ([], []), ([2], [2]), ([1, 3], [1, 3]), ([4], [4]), ([5], [5]), ([], []), ([], []), ([8], [8]), ([7, 9], [7, 9]), ([10, 5], [10]), ([6, 11], [6, 11]), ([12], [12]), ([13], [13]), ([0, 14, 11], [0, 14]), ([15, 15, 0, 1, 2, 3, 4, 5, 6, 7, 8, 9, 10, 11, 12, 13, 14, 15], [0, 15])])
def refrainref1_unquoted.B15 : List Nat := [0, 0, 0, 4, 14, 30, 62, 0, 0, 256, 896, 1982, 4094, 8190, 16382, 32767, 65535]
theorem refrainref1_unquoted.tab15 : rtab .any (opsOf Tryz.f31 15) = refrainref1_unquoted.T15 := by kernel_rfl
theorem refrainref1_unquoted.bits15 : waitsOk refrainref1_unquoted.T15.2 refrainref1_unquoted.B15 = true := by kernel_rfl
set_option maxHeartbeats 8000000 in
set_option maxRecDepth 100000 in
theorem refrainref1_unquoted.calls (k : Nat) (a0 : ByteArray) (r1 : Int) (r2 : Int) (r3 : ByteArray) (r4 : Bool) (w : World) (h : refrainref1_unquoted.f k a0 = some (r1, r2, r3, r4)) :
    Calls Tryz.prog 31 #[.string a0] w fun e w' => e = .returned (.agg #[.int .i64 r1, .int .i64 r2, .string r3, .bool r4]) ∧ Below w.heap.size w w' := by
  have hu27 := Tryz.underlying27
  have HB := Aside0.mk (Below.refl w.heap.size w)
  have H : (refrainref1_unquoted.l0 k a0 ([] : List Int) 1) = some (r1, r2, r3, r4) := h
  clear h
  have H' := Aside0.mk H
  clear H
  go_enter Tryz.func31, Tryz.ntmps31
  go_wp2_with (first | ((with_reducible refine gate_dst (N := 2) rfl ?_); (try (refine gate_guard (by rfl) ?_; dsimp only)); refine box_event ?hg (N := 2) ?hd (cs := #[.int .i64 0, .int .i64 0, .string (⟨#[]⟩ : ByteArray), .bool false]) (t := 27) ?hr ?_; (case hd => rfl); (case hg => rfl); (case hr => first | (go_simp; done) | (go_simp; rfl)); intro gb281 hg w2 hbox hb; have BK281 := Aside0.mk hbox; have GW281 := geA hg HB; have GE281 := geA hg HB; replace HB := bsA HB hb; clear hb hbox hg))
  go_loopg [3, 4] k (fun kq v3 v4 w' => ∃ (x3_1 : List Int) (x4_1 : Int), v4 = .int .i64 x4_1 ∧ Aside0 (refrainref1_unquoted.l0 kq a0 x3_1 x4_1 = some (r1, r2, r3, r4)) ∧ Aside0 (kq ≤ k) ∧ Aside0 (Kd.R (Kd.int .u8) 5 w' w.heap.size (fun _ => True) v3 x3_1) ∧ Aside0 (w'.heap[gb281]? = some (.cells #[.int .i64 0, .int .i64 0, .string (⟨#[]⟩ : ByteArray), .bool false] 27 (0, 0))) ∧ Aside0 (Below w.heap.size w w'))
  case atStart => exact ⟨(([] : List Int)), (1), (by first | rfl | (simp; done) | (simp [*]; done) | (simp; unfold wrap64; omega) | (congr 1; (try rw [Bool.eq_iff_iff]); simp [List.isEmpty_iff]; done)), H', ⟨Nat.le_refl _⟩, ⟨by first | exact Kd.R_nil _ _ _ _ _ | exact Kd.N_nil _ _ _ _ _ | exact Kd.V_nil _ _ _ _ _ | exact Kd.Q_nil _ _ _ _ _ | exact Kd.S_nil _ _ _ _ _⟩, ⟨bkT BK281.out⟩, ⟨hbT HB.out⟩⟩
  case round =>
    clear H'
    try clear p2
    obtain ⟨x3_1, x4_1, rfl, HA, HK1, HO_3, BK281, HB⟩ := hrel
    cases gk with
    | zero => (have HA2 := HA.out; clear HA; revert HA2; rw [refrainref1_unquoted.l0_zero]; intro h_; cases h_)
    | succ k1 =>
      have H := HA.out
      clear HA
      simp only [refrainref1_unquoted.l0] at H
      by_cases c3 : x4_1 < (wrap64 ((a0.size : Int) - 1))
      · rw [if_pos c3] at H
        have c3b0 : decide (x4_1 < (wrap64 ((a0.size : Int) - 1))) = true := decide_eq_true c3
        clear c3
        by_cases c4 : 0 ≤ x4_1
        · rw [if_pos c4] at H
          have c4b0 : decide (0 ≤ x4_1) = true := decide_eq_true c4
          clear c4
          by_cases c5 : x4_1 < (a0.size : Int)
          · rw [if_pos c5] at H
            have c5b0 : decide (x4_1 < (a0.size : Int)) = true := decide_eq_true c5
            clear c5
            have HC7 := Aside0.mk H
            clear H
            have p6 : 0 ≤ (x4_1 : Int) := of_decide_eq_true (by first | (with_reducible assumption) | assumption)
            have q6 : x4_1 < (a0.size : Int) := of_decide_eq_true (by first | (with_reducible assumption) | assumption)
            have hx6 := bt_at a0 x4_1
            replace p6 := eq_true p6
            replace q6 := eq_true q6
            go_upto_region 6 with (fail)
            go_cut [25] (fun v25 wc => ∃ (kq : Nat) (x25_6 : Bool), v25 = .bool x25_6 ∧ Aside0 (refrainref1_unquoted.j1 kq a0 x3_1 x4_1 (bt a0 x4_1) x25_6 = some (r1, r2, r3, r4)) ∧ Aside0 (kq ≤ k1) ∧ Aside0 (Kd.R (Kd.int .u8) 5 wc w.heap.size (fun _ => True) u3 x3_1) ∧ Aside0 (wc.heap[gb281]? = some (.cells #[.int .i64 0, .int .i64 0, .string (⟨#[]⟩ : ByteArray), .bool false] 27 (0, 0))) ∧ Aside0 (Below w.heap.size w wc))
            case first =>
              have H := HC7.out
              clear HC7
              by_cases c8 : (bt a0 x4_1) = 92
              · rw [if_pos c8] at H
                have c8b0 : ((bt a0 x4_1) == 92) = true := beq_iff_eq.mpr c8
                have c8b1 : ((bt a0 x4_1) != 92) = false := bne_eq_false_iff_eq.mpr c8
                clear c8
                (first | rw [c8b0] | (simp only [i64_w, i32_w, IntKind.wrap_u8, IntKind.wrap_u16, IntKind.wrap_u32]; rw [c8b0]) | skip)
                have H' := Aside0.mk H
                clear H
                go_wp2
                go_meet
                case rel => exact ⟨_, (decide ((wrap64 (x4_1 + 1)) ≥ (wrap64 ((a0.size : Int) - 1)))), (by first | rfl | (simp; done) | (simp [*]; done) | (simp; unfold wrap64; omega) | (congr 1; (try rw [Bool.eq_iff_iff]); simp [List.isEmpty_iff]; done)), H', ⟨by have := HK1.out; first | omega | exact Nat.le_refl _⟩, ⟨by (with_reducible repeat (first | apply Kd.R_alloc | apply Kd.R_drewN | apply Kd.R_drew)); exact HO_3.out⟩, ⟨bkT BK281.out⟩, ⟨hbT HB.out⟩⟩
              · rw [if_neg c8] at H
                have c8b0 : ((bt a0 x4_1) == 92) = false := beq_eq_false_iff_ne.mpr c8
                have c8b1 : ((bt a0 x4_1) != 92) = true := bne_iff_ne.mpr c8
                (first | rw [c8b0] | (simp only [i64_w, i32_w, IntKind.wrap_u8, IntKind.wrap_u16, IntKind.wrap_u32]; rw [c8b0]) | skip)
                have H' := Aside0.mk H
                clear H
                go_wp2
                go_meet
                case rel => exact ⟨_, (true), (by first | rfl | (simp; done) | (simp [*]; done) | (simp; unfold wrap64; omega) | (congr 1; (try rw [Bool.eq_iff_iff]); simp [List.isEmpty_iff]; done)), H', ⟨by have := HK1.out; first | omega | exact Nat.le_refl _⟩, ⟨by (with_reducible repeat (first | apply Kd.R_alloc | apply Kd.R_drewN | apply Kd.R_drew)); exact HO_3.out⟩, ⟨bkT BK281.out⟩, ⟨hbT HB.out⟩⟩
            case rest =>
              clear HC7
              try clear p2
              try clear c3
              try clear c3b0
              try clear c4
              try clear c4b0
              try clear c5
              try clear c5b0
              try clear p6
              try clear q6
              try clear hx6
              try clear c8
              try clear c8b0
              try clear c8b1
              try clear p2
              try clear p6
              try clear q6
              obtain ⟨kq, x25_6, rfl, HA, HJ6, HO_3, BK281, HB⟩ := hcut
              cases kq with
              | zero => (have HA2 := HA.out; clear HA; revert HA2; rw [refrainref1_unquoted.j1_zero]; intro h_; cases h_)
              | succ kj6 =>
                have H := HA.out
                clear HA
                simp only [refrainref1_unquoted.j1] at H
                by_cases c9 : x25_6 = true
                · subst c9
                  have H1 : (if x3_1.length < 140737488355328 then (refrainref1_unquoted.l0 kj6 a0 (x3_1 ++ [(bt a0 x4_1)]) (wrap64 (x4_1 + 1))) else (none)) = some (r1, r2, r3, r4) := by rw [if_pos rfl] at H; exact H
                  clear H
                  have H := H1
                  clear H1
                  by_cases c10 : x3_1.length < 140737488355328
                  · rw [if_pos c10] at H
                    have LMc10 := Aside0.mk c10
                    clear c10
                    obtain ⟨y282, hy282⟩ : ∃ y_ : List Int, y_ = (x3_1 ++ [(bt a0 x4_1)]) := ⟨_, rfl⟩
                    replace H : (refrainref1_unquoted.l0 kj6 a0 y282 (wrap64 (x4_1 + 1))) = some (r1, r2, r3, r4) := by first | (rw [hy282]; with_reducible exact H) | (have H2_ := (Option.bind_some _ _).symm.trans H; rw [hy282]; with_reducible exact H2_) | (have H2_ := (Option.bind_some _ _).symm.trans H; with_reducible exact H2_) | with_reducible exact H | (rw [hy282]; exact H) | exact H
                    have Ny282 := Aside0.mk hy282
                    clear hy282
                    have H' := Aside0.mk H
                    clear H
                    go_wp2_with (first | ((with_reducible refine gate_builtin (b := .append) (xs := #[.tmp 26, .tmp 28]) rfl ?_); (try (refine gate_guard (by rfl) ?_; dsimp only)); at_builtin; refine Kd.R_append (Kd.int .u8) (w0 := w) w.heap.size rfl (.tmp 26) (.tmp 28) 60 5 (.int .u8 0) 1 rfl Tryz.underlying60 info5 rfl (by decide) (by omega) u3 x3_1 (bt a0 x4_1) [.int .u8 (bt a0 x4_1)] (fun _ => True) (fun _ => False) rfl rfl ?aP (fun _ hk => hk.elim) ?aF ?aO ?aB ?aS ?aL ?_; (case aP => exact rfl); (case aB => exact (hbT HB.out)); (case aF => exact (fun _ _ => trivial)); (case aO => exact (by (with_reducible repeat (first | apply Kd.R_alloc | apply Kd.R_drewN | apply Kd.R_drew)); exact HO_3.out)); (case aS => exact (below_size (hbT HB.out))); (case aL => have := LMc10.out; omega); intro v283 w11 ho hb hg hat; rw [← Ny282.out] at ho; have n0_ := Aside0.mk (blk_grown (g := gb281) (o := .cells #[.int .i64 0, .int .i64 0, .string (⟨#[]⟩ : ByteArray), .bool false] 27 (0, 0)) (bkT BK281.out) hg (Kd.R_ne HO_3.out BK281.out (by decide))); have n1_ := Aside0.mk (hb); have n2_ := Aside0.mk (ho); clear BK281; clear HB; clear HO_3; have BK281 := n0_; have HB := n1_; have HO284 := n2_; clear n0_ n1_ n2_; clear ho hb hg hat))
                    go_roundg kj6
                    case measure => have := HK1.out; have := HJ6.out; omega
                    case rel => exact ⟨(y282), (wrap64 (x4_1 + 1)), (by first | rfl | (simp; done) | (simp [*]; done) | (simp; unfold wrap64; omega) | (congr 1; (try rw [Bool.eq_iff_iff]); simp [List.isEmpty_iff]; done)), H', ⟨by have := HK1.out; have := HJ6.out; omega⟩, ⟨by (with_reducible repeat (first | apply Kd.R_alloc | apply Kd.R_drewN | apply Kd.R_drew)); exact HO284.out⟩, ⟨bkT BK281.out⟩, ⟨hbT HB.out⟩⟩
                  · rw [if_neg c10] at H
                    exact absurd H (by simp)
                · replace c9 := Bool.eq_false_iff.mpr c9
                  subst c9
                  have H1 : (if 0 ≤ (wrap64 (x4_1 + 1)) then (if (wrap64 (x4_1 + 1)) < (a0.size : Int) then (if (bt a0 (wrap64 (x4_1 + 1))) = 110 then (if x3_1.length < 140737488355328 then (refrainref1_unquoted.l0 kj6 a0 (x3_1 ++ [10]) (wrap64 ((wrap64 (x4_1 + 1)) + 1))) else (none)) else (if (bt a0 (wrap64 (x4_1 + 1))) = 116 then (if x3_1.length < 140737488355328 then (refrainref1_unquoted.l0 kj6 a0 (x3_1 ++ [9]) (wrap64 ((wrap64 (x4_1 + 1)) + 1))) else (none)) else (if (bt a0 (wrap64 (x4_1 + 1))) = 120 then (refrainref1_unquoted.j2 kj6 a0 x3_1 (wrap64 (x4_1 + 1)) (decide ((wrap64 ((wrap64 (x4_1 + 1)) + 2)) < (a0.size : Int)))) else (refrainref1_unquoted.j2 kj6 a0 x3_1 (wrap64 (x4_1 + 1)) false)))) else (none)) else (none)) = some (r1, r2, r3, r4) := by rw [if_neg (show ¬ (false = true) by decide)] at H; exact H
                  clear H
                  have H := H1
                  clear H1
                  obtain ⟨ji12, hji12⟩ : ∃ j_ : Int, (wrap64 (x4_1 + 1)) = j_ := ⟨_, rfl⟩
                  replace H : (if 0 ≤ (ji12) then (if (ji12) < (a0.size : Int) then (if (bt a0 (ji12)) = 110 then (if x3_1.length < 140737488355328 then (refrainref1_unquoted.l0 kj6 a0 (x3_1 ++ [10]) (wrap64 ((ji12) + 1))) else (none)) else (if (bt a0 (ji12)) = 116 then (if x3_1.length < 140737488355328 then (refrainref1_unquoted.l0 kj6 a0 (x3_1 ++ [9]) (wrap64 ((ji12) + 1))) else (none)) else (if (bt a0 (ji12)) = 120 then (refrainref1_unquoted.j2 kj6 a0 x3_1 ji12 (decide ((wrap64 ((ji12) + 2)) < (a0.size : Int)))) else (refrainref1_unquoted.j2 kj6 a0 x3_1 ji12 false)))) else (none)) else (none)) = some (r1, r2, r3, r4) := by first | (rw [hji12] at H; exact H) | (simp only [hji12] at H ⊢; exact H)
                  have hji12w : (IntKind.i64.wrap (x4_1 + 1)) = ji12 := (i64_w _).trans hji12
                  by_cases c13 : 0 ≤ (ji12)
                  · rw [if_pos c13] at H
                    have c13b0 : decide (0 ≤ (ji12)) = true := decide_eq_true c13
                    clear c13
                    by_cases c14 : (ji12) < (a0.size : Int)
                    · rw [if_pos c14] at H
                      have c14b0 : decide ((ji12) < (a0.size : Int)) = true := decide_eq_true c14
                      clear c14
                      by_cases c16 : (bt a0 (ji12)) = 110
                      · rw [if_pos c16] at H
                        have c16b0 : ((bt a0 (ji12)) == 110) = true := beq_iff_eq.mpr c16
                        have c16b1 : ((bt a0 (ji12)) != 110) = false := bne_eq_false_iff_eq.mpr c16
                        clear c16
                        by_cases c17 : x3_1.length < 140737488355328
                        · rw [if_pos c17] at H
                          have LMc17 := Aside0.mk c17
                          clear c17
                          obtain ⟨y285, hy285⟩ : ∃ y_ : List Int, y_ = (x3_1 ++ [10]) := ⟨_, rfl⟩
                          replace H : (refrainref1_unquoted.l0 kj6 a0 y285 (wrap64 ((ji12) + 1))) = some (r1, r2, r3, r4) := by first | (rw [hy285]; with_reducible exact H) | (have H2_ := (Option.bind_some _ _).symm.trans H; rw [hy285]; with_reducible exact H2_) | (have H2_ := (Option.bind_some _ _).symm.trans H; with_reducible exact H2_) | with_reducible exact H | (rw [hy285]; exact H) | exact H
                          have Ny285 := Aside0.mk hy285
                          clear hy285
                          have H' := Aside0.mk H
                          clear H
                          have p15 : 0 ≤ ((ji12) : Int) := of_decide_eq_true (by first | (with_reducible assumption) | assumption)
                          have q15 : (ji12) < (a0.size : Int) := of_decide_eq_true (by first | (with_reducible assumption) | assumption)
                          have hx15 := bt_at a0 (ji12)
                          replace p15 := eq_true p15
                          replace q15 := eq_true q15
                          go_wp2_with (first | ((with_reducible refine gate_builtin (b := .append) (xs := #[.tmp 43, .tmp 44]) rfl ?_); (try (refine gate_guard (by rfl) ?_; dsimp only)); at_builtin; refine Kd.R_append (Kd.int .u8) (w0 := w) w.heap.size rfl (.tmp 43) (.tmp 44) 60 5 (.int .u8 0) 1 rfl Tryz.underlying60 info5 rfl (by decide) (by omega) u3 x3_1 10 [.int .u8 10] (fun _ => True) (fun _ => False) rfl rfl ?aP (fun _ hk => hk.elim) ?aF ?aO ?aB ?aS ?aL ?_; (case aP => exact rfl); (case aB => exact (hbT HB.out)); (case aF => exact (fun _ _ => trivial)); (case aO => exact (by (with_reducible repeat (first | apply Kd.R_alloc | apply Kd.R_drewN | apply Kd.R_drew)); exact HO_3.out)); (case aS => exact (below_size (hbT HB.out))); (case aL => have := LMc17.out; omega); intro v286 w18 ho hb hg hat; rw [← Ny285.out] at ho; have n0_ := Aside0.mk (blk_grown (g := gb281) (o := .cells #[.int .i64 0, .int .i64 0, .string (⟨#[]⟩ : ByteArray), .bool false] 27 (0, 0)) (bkT BK281.out) hg (Kd.R_ne HO_3.out BK281.out (by decide))); have n1_ := Aside0.mk (hb); have n2_ := Aside0.mk (ho); clear BK281; clear HB; clear HO_3; have BK281 := n0_; have HB := n1_; have HO287 := n2_; clear n0_ n1_ n2_; clear ho hb hg hat))
                          go_roundg kj6
                          case measure => have := HK1.out; have := HJ6.out; omega
                          case rel => exact ⟨(y285), (wrap64 ((ji12) + 1)), (by first | rfl | (simp; done) | (simp only [← hji12] <;> (first | rfl | simp)) | (simp [*]; done)), H', ⟨by have := HK1.out; have := HJ6.out; omega⟩, ⟨by (with_reducible repeat (first | apply Kd.R_alloc | apply Kd.R_drewN | apply Kd.R_drew)); exact HO287.out⟩, ⟨bkT BK281.out⟩, ⟨hbT HB.out⟩⟩
                        · rw [if_neg c17] at H
                          exact absurd H (by simp)
                      · rw [if_neg c16] at H
                        have c16b0 : ((bt a0 (ji12)) == 110) = false := beq_eq_false_iff_ne.mpr c16
                        have c16b1 : ((bt a0 (ji12)) != 110) = true := bne_iff_ne.mpr c16
                        by_cases c20 : (bt a0 (ji12)) = 116
                        · rw [if_pos c20] at H
                          have c20b0 : ((bt a0 (ji12)) == 116) = true := beq_iff_eq.mpr c20
                          have c20b1 : ((bt a0 (ji12)) != 116) = false := bne_eq_false_iff_eq.mpr c20
                          clear c20
                          by_cases c21 : x3_1.length < 140737488355328
                          · rw [if_pos c21] at H
                            have LMc21 := Aside0.mk c21
                            clear c21
                            obtain ⟨y288, hy288⟩ : ∃ y_ : List Int, y_ = (x3_1 ++ [9]) := ⟨_, rfl⟩
                            replace H : (refrainref1_unquoted.l0 kj6 a0 y288 (wrap64 ((ji12) + 1))) = some (r1, r2, r3, r4) := by first | (rw [hy288]; with_reducible exact H) | (have H2_ := (Option.bind_some _ _).symm.trans H; rw [hy288]; with_reducible exact H2_) | (have H2_ := (Option.bind_some _ _).symm.trans H; with_reducible exact H2_) | with_reducible exact H | (rw [hy288]; exact H) | exact H
                            have Ny288 := Aside0.mk hy288
                            clear hy288
                            have H' := Aside0.mk H
                            clear H
                            have p15 : 0 ≤ ((ji12) : Int) := of_decide_eq_true (by first | (with_reducible assumption) | assumption)
                            have q15 : (ji12) < (a0.size : Int) := of_decide_eq_true (by first | (with_reducible assumption) | assumption)
                            have hx15 := bt_at a0 (ji12)
                            replace p15 := eq_true p15
                            replace q15 := eq_true q15
                            have p19 : 0 ≤ ((ji12) : Int) := of_decide_eq_true (by first | (with_reducible assumption) | assumption)
                            have q19 : (ji12) < (a0.size : Int) := of_decide_eq_true (by first | (with_reducible assumption) | assumption)
                            have hx19 := bt_at a0 (ji12)
                            replace p19 := eq_true p19
                            replace q19 := eq_true q19
                            go_wp2_with (first | ((with_reducible refine gate_builtin (b := .append) (xs := #[.tmp 51, .tmp 52]) rfl ?_); (try (refine gate_guard (by rfl) ?_; dsimp only)); at_builtin; refine Kd.R_append (Kd.int .u8) (w0 := w) w.heap.size rfl (.tmp 51) (.tmp 52) 60 5 (.int .u8 0) 1 rfl Tryz.underlying60 info5 rfl (by decide) (by omega) u3 x3_1 9 [.int .u8 9] (fun _ => True) (fun _ => False) rfl rfl ?aP (fun _ hk => hk.elim) ?aF ?aO ?aB ?aS ?aL ?_; (case aP => exact rfl); (case aB => exact (hbT HB.out)); (case aF => exact (fun _ _ => trivial)); (case aO => exact (by (with_reducible repeat (first | apply Kd.R_alloc | apply Kd.R_drewN | apply Kd.R_drew)); exact HO_3.out)); (case aS => exact (below_size (hbT HB.out))); (case aL => have := LMc21.out; omega); intro v289 w22 ho hb hg hat; rw [← Ny288.out] at ho; have n0_ := Aside0.mk (blk_grown (g := gb281) (o := .cells #[.int .i64 0, .int .i64 0, .string (⟨#[]⟩ : ByteArray), .bool false] 27 (0, 0)) (bkT BK281.out) hg (Kd.R_ne HO_3.out BK281.out (by decide))); have n1_ := Aside0.mk (hb); have n2_ := Aside0.mk (ho); clear BK281; clear HB; clear HO_3; have BK281 := n0_; have HB := n1_; have HO290 := n2_; clear n0_ n1_ n2_; clear ho hb hg hat))
                            go_roundg kj6
                            case measure => have := HK1.out; have := HJ6.out; omega
                            case rel => exact ⟨(y288), (wrap64 ((ji12) + 1)), (by first | rfl | (simp; done) | (simp only [← hji12] <;> (first | rfl | simp)) | (simp [*]; done)), H', ⟨by have := HK1.out; have := HJ6.out; omega⟩, ⟨by (with_reducible repeat (first | apply Kd.R_alloc | apply Kd.R_drewN | apply Kd.R_drew)); exact HO290.out⟩, ⟨bkT BK281.out⟩, ⟨hbT HB.out⟩⟩
                          · rw [if_neg c21] at H
                            exact absurd H (by simp)
                        · rw [if_neg c20] at H
                          have c20b0 : ((bt a0 (ji12)) == 116) = false := beq_eq_false_iff_ne.mpr c20
                          have c20b1 : ((bt a0 (ji12)) != 116) = true := bne_iff_ne.mpr c20
                          have HC23 := Aside0.mk H
                          clear H
                          have p15 : 0 ≤ ((ji12) : Int) := of_decide_eq_true (by first | (with_reducible assumption) | assumption)
                          have q15 : (ji12) < (a0.size : Int) := of_decide_eq_true (by first | (with_reducible assumption) | assumption)
                          have hx15 := bt_at a0 (ji12)
                          replace p15 := eq_true p15
                          replace q15 := eq_true q15
                          have p19 : 0 ≤ ((ji12) : Int) := of_decide_eq_true (by first | (with_reducible assumption) | assumption)
                          have q19 : (ji12) < (a0.size : Int) := of_decide_eq_true (by first | (with_reducible assumption) | assumption)
                          have hx19 := bt_at a0 (ji12)
                          replace p19 := eq_true p19
                          replace q19 := eq_true q19
                          go_upto_region 14 with (fail)
                          go_cut [54] (fun v54 wc => ∃ (kq : Nat) (x54_22 : Bool), v54 = .bool x54_22 ∧ Aside0 (refrainref1_unquoted.j2 kq a0 x3_1 ji12 x54_22 = some (r1, r2, r3, r4)) ∧ Aside0 (kq ≤ kj6) ∧ Aside0 (Kd.R (Kd.int .u8) 5 wc w.heap.size (fun _ => True) u3 x3_1) ∧ Aside0 (wc.heap[gb281]? = some (.cells #[.int .i64 0, .int .i64 0, .string (⟨#[]⟩ : ByteArray), .bool false] 27 (0, 0))) ∧ Aside0 (Below w.heap.size w wc))
                          case first =>
                            have H := HC23.out
                            clear HC23
                            by_cases c25 : (bt a0 (ji12)) = 120
                            · rw [if_pos c25] at H
                              have c25b0 : ((bt a0 (ji12)) == 120) = true := beq_iff_eq.mpr c25
                              have c25b1 : ((bt a0 (ji12)) != 120) = false := bne_eq_false_iff_eq.mpr c25
                              clear c25
                              (first | rw [c25b0] | (simp only [i64_w, i32_w, IntKind.wrap_u8, IntKind.wrap_u16, IntKind.wrap_u32]; rw [c25b0]) | skip)
                              have H' := Aside0.mk H
                              clear H
                              have p24 : 0 ≤ ((ji12) : Int) := of_decide_eq_true (by first | (with_reducible assumption) | assumption)
                              have q24 : (ji12) < (a0.size : Int) := of_decide_eq_true (by first | (with_reducible assumption) | assumption)
                              have hx24 := bt_at a0 (ji12)
                              replace p24 := eq_true p24
                              replace q24 := eq_true q24
                              go_wp2
                              go_meet
                              case rel => exact ⟨_, (decide ((wrap64 ((ji12) + 2)) < (a0.size : Int))), (by first | rfl | (simp; done) | (simp only [← hji12] <;> (first | rfl | simp)) | (simp [*]; done)), H', ⟨by have := HK1.out; have := HJ6.out; first | omega | exact Nat.le_refl _⟩, ⟨by (with_reducible repeat (first | apply Kd.R_alloc | apply Kd.R_drewN | apply Kd.R_drew)); exact HO_3.out⟩, ⟨bkT BK281.out⟩, ⟨hbT HB.out⟩⟩
                            · rw [if_neg c25] at H
                              have c25b0 : ((bt a0 (ji12)) == 120) = false := beq_eq_false_iff_ne.mpr c25
                              have c25b1 : ((bt a0 (ji12)) != 120) = true := bne_iff_ne.mpr c25
                              (first | rw [c25b0] | (simp only [i64_w, i32_w, IntKind.wrap_u8, IntKind.wrap_u16, IntKind.wrap_u32]; rw [c25b0]) | skip)
                              have H' := Aside0.mk H
                              clear H
                              have p24 : 0 ≤ ((ji12) : Int) := of_decide_eq_true (by first | (with_reducible assumption) | assumption)
                              have q24 : (ji12) < (a0.size : Int) := of_decide_eq_true (by first | (with_reducible assumption) | assumption)
                              have hx24 := bt_at a0 (ji12)
                              replace p24 := eq_true p24
                              replace q24 := eq_true q24
                              go_wp2
                              go_meet
                              case rel => exact ⟨_, (false), (by first | rfl | (simp; done) | (simp [*]; done) | (simp; unfold wrap64; omega) | (congr 1; (try rw [Bool.eq_iff_iff]); simp [List.isEmpty_iff]; done)), H', ⟨by have := HK1.out; have := HJ6.out; first | omega | exact Nat.le_refl _⟩, ⟨by (with_reducible repeat (first | apply Kd.R_alloc | apply Kd.R_drewN | apply Kd.R_drew)); exact HO_3.out⟩, ⟨bkT BK281.out⟩, ⟨hbT HB.out⟩⟩
                          case rest =>
                            clear HC23
                            try clear c1
                            try clear p1
                            try clear q1
                            try clear hx1
                            try clear c2
                            try clear p2
                            try clear q2
                            try clear hx2
                            try clear c3
                            try clear c3b0
                            try clear c4
                            try clear c4b0
                            try clear c5
                            try clear c5b0
                            try clear p6
                            try clear q6
                            try clear hx6
                            try clear c8
                            try clear c8b0
                            try clear c8b1
                            try clear c9
                            try clear c10
                            try clear c13
                            try clear c13b0
                            try clear c14
                            try clear c14b0
                            try clear p15
                            try clear q15
                            try clear hx15
                            try clear c16
                            try clear c16b0
                            try clear c16b1
                            try clear c17
                            try clear p19
                            try clear q19
                            try clear hx19
                            try clear c20
                            try clear c20b0
                            try clear c20b1
                            try clear c21
                            try clear p24
                            try clear q24
                            try clear hx24
                            try clear c25
                            try clear c25b0
                            try clear c25b1
                            try clear p15
                            try clear p19
                            try clear p2
                            try clear p24
                            try clear p6
                            try clear q15
                            try clear q19
                            try clear q24
                            try clear q6
                            obtain ⟨kq, x54_22, rfl, HA, HJ22, HO_3, BK281, HB⟩ := hcut
                            cases kq with
                            | zero => (have HA2 := HA.out; clear HA; revert HA2; rw [refrainref1_unquoted.j2_zero]; intro h_; cases h_)
                            | succ kj22 =>
                              have H := HA.out
                              clear HA
                              simp only [refrainref1_unquoted.j2] at H
                              by_cases c26 : x54_22 = true
                              · subst c26
                                have H1 : (if 0 ≤ (wrap64 (ji12 + 1)) then (if (wrap64 (ji12 + 1)) < (a0.size : Int) then ((refrainref1_nibble.f kj22 (bt a0 (wrap64 (ji12 + 1)))).bind fun t291 => (if 0 ≤ (wrap64 (ji12 + 2)) then (if (wrap64 (ji12 + 2)) < (a0.size : Int) then ((refrainref1_nibble.f kj22 (bt a0 (wrap64 (ji12 + 2)))).bind fun t292 => (if x3_1.length < 140737488355328 then (refrainref1_unquoted.l0 kj22 a0 (x3_1 ++ [(wrap64 ((wrap64 (t291 * 16)) + t292)) % 256]) (wrap64 ((wrap64 (ji12 + 2)) + 1))) else (none))) else (none)) else (none))) else (none)) else (none)) = some (r1, r2, r3, r4) := by rw [if_pos rfl] at H; exact H
                                clear H
                                have H := H1
                                clear H1
                                obtain ⟨ji27, hji27⟩ : ∃ j_ : Int, (wrap64 (ji12 + 1)) = j_ := ⟨_, rfl⟩
                                replace H : (if 0 ≤ (ji27) then (if (ji27) < (a0.size : Int) then ((refrainref1_nibble.f kj22 (bt a0 (ji27))).bind fun t291 => (if 0 ≤ (wrap64 (ji12 + 2)) then (if (wrap64 (ji12 + 2)) < (a0.size : Int) then ((refrainref1_nibble.f kj22 (bt a0 (wrap64 (ji12 + 2)))).bind fun t292 => (if x3_1.length < 140737488355328 then (refrainref1_unquoted.l0 kj22 a0 (x3_1 ++ [(wrap64 ((wrap64 (t291 * 16)) + t292)) % 256]) (wrap64 ((wrap64 (ji12 + 2)) + 1))) else (none))) else (none)) else (none))) else (none)) else (none)) = some (r1, r2, r3, r4) := by first | (rw [hji27] at H; exact H) | (simp only [hji27] at H ⊢; exact H)
                                have hji27w : (IntKind.i64.wrap (ji12 + 1)) = ji27 := (i64_w _).trans hji27
                                by_cases c28 : 0 ≤ (ji27)
                                · rw [if_pos c28] at H
                                  have c28b0 : decide (0 ≤ (ji27)) = true := decide_eq_true c28
                                  clear c28
                                  by_cases c29 : (ji27) < (a0.size : Int)
                                  · rw [if_pos c29] at H
                                    have c29b0 : decide ((ji27) < (a0.size : Int)) = true := decide_eq_true c29
                                    clear c29
                                    replace H := Option.bind_eq_some_iff.mp H
                                    obtain ⟨t291, A310, H⟩ := H
                                    replace H : (if 0 ≤ (wrap64 (ji12 + 2)) then (if (wrap64 (ji12 + 2)) < (a0.size : Int) then ((refrainref1_nibble.f kj22 (bt a0 (wrap64 (ji12 + 2)))).bind fun t292 => (if x3_1.length < 140737488355328 then (refrainref1_unquoted.l0 kj22 a0 (x3_1 ++ [(wrap64 ((wrap64 (t291 * 16)) + t292)) % 256]) (wrap64 ((wrap64 (ji12 + 2)) + 1))) else (none))) else (none)) else (none)) = some (r1, r2, r3, r4) := H
                                    have A31 := Aside0.mk A310
                                    clear A310
                                    obtain ⟨ji32, hji32⟩ : ∃ j_ : Int, (wrap64 (ji12 + 2)) = j_ := ⟨_, rfl⟩
                                    replace H : (if 0 ≤ (ji32) then (if (ji32) < (a0.size : Int) then ((refrainref1_nibble.f kj22 (bt a0 (ji32))).bind fun t292 => (if x3_1.length < 140737488355328 then (refrainref1_unquoted.l0 kj22 a0 (x3_1 ++ [(wrap64 ((wrap64 (t291 * 16)) + t292)) % 256]) (wrap64 ((ji32) + 1))) else (none))) else (none)) else (none)) = some (r1, r2, r3, r4) := by first | (rw [hji32] at H; exact H) | (simp only [hji32] at H ⊢; exact H)
                                    (try rw [hji32] at A31)
                                    have hji32w : (IntKind.i64.wrap (ji12 + 2)) = ji32 := (i64_w _).trans hji32
                                    by_cases c33 : 0 ≤ (ji32)
                                    · rw [if_pos c33] at H
                                      have c33b0 : decide (0 ≤ (ji32)) = true := decide_eq_true c33
                                      clear c33
                                      by_cases c34 : (ji32) < (a0.size : Int)
                                      · rw [if_pos c34] at H
                                        have c34b0 : decide ((ji32) < (a0.size : Int)) = true := decide_eq_true c34
                                        clear c34
                                        replace H := Option.bind_eq_some_iff.mp H
                                        obtain ⟨t292, A360, H⟩ := H
                                        replace H : (if x3_1.length < 140737488355328 then (refrainref1_unquoted.l0 kj22 a0 (x3_1 ++ [(wrap64 ((wrap64 (t291 * 16)) + t292)) % 256]) (wrap64 ((ji32) + 1))) else (none)) = some (r1, r2, r3, r4) := H
                                        have A36 := Aside0.mk A360
                                        clear A360
                                        by_cases c37 : x3_1.length < 140737488355328
                                        · rw [if_pos c37] at H
                                          have LMc37 := Aside0.mk c37
                                          clear c37
                                          obtain ⟨y293, hy293⟩ : ∃ y_ : List Int, y_ = (x3_1 ++ [(wrap64 ((wrap64 (t291 * 16)) + t292)) % 256]) := ⟨_, rfl⟩
                                          replace H : (refrainref1_unquoted.l0 kj22 a0 y293 (wrap64 ((ji32) + 1))) = some (r1, r2, r3, r4) := by first | (rw [hy293]; with_reducible exact H) | (have H2_ := (Option.bind_some _ _).symm.trans H; rw [hy293]; with_reducible exact H2_) | (have H2_ := (Option.bind_some _ _).symm.trans H; with_reducible exact H2_) | with_reducible exact H | (rw [hy293]; exact H) | exact H
                                          have Ny293 := Aside0.mk hy293
                                          clear hy293
                                          have H' := Aside0.mk H
                                          clear H
                                          try go_wp2
                                          replace HO_3 := Aside0.mk (Kd.R_drew HO_3.out); replace BK281 := bdA BK281; replace HB := Aside0.mk (below_drew1 HB.out)
                                          have p30 : 0 ≤ ((ji27) : Int) := of_decide_eq_true (by first | (with_reducible assumption) | assumption)
                                          have q30 : (ji27) < (a0.size : Int) := of_decide_eq_true (by first | (with_reducible assumption) | assumption)
                                          have hx30 := bt_at a0 (ji27)
                                          replace p30 := eq_true p30
                                          replace q30 := eq_true q30
                                          have p35 : 0 ≤ ((ji32) : Int) := of_decide_eq_true (by first | (with_reducible assumption) | assumption)
                                          have q35 : (ji32) < (a0.size : Int) := of_decide_eq_true (by first | (with_reducible assumption) | assumption)
                                          have hx35 := bt_at a0 (ji32)
                                          replace p35 := eq_true p35
                                          replace q35 := eq_true q35
                                          refine start_ (n := 17) (S := fun w' => True) (ds := []) #[false, false, false, false, false, false, false, false, false, false, false, false, false, false, false, false, false] (by kernel_rfl) rfl rfl trivial (fun hHeld => ?_); refine with_tabW refrainref1_unquoted.tab15 refrainref1_unquoted.bits15 (fun HT_ HW_ => ?_)
                                          generalize wc.drew = w38 at HO_3 BK281 HB hHeld ⊢
                                          refine pure_ (i := 0) (N := some 66) (v := ?_) (a' := ?_) #[true, false, false, false, false, false, false, false, false, false, false, false, false, false, false, false, false] rfl rfl (any_of HT_.out (by kernel_rfl)) (fun _ _ _ h => h) (Or.inl ⟨by rfl, ?_⟩) ?_ ?_
                                          rotate_left; (focus (intro w'; go_simp; with_reducible rfl)); rotate_left; (focus (simp only [Act.put, List.setIfInBounds_toArray, List.set_cons_zero, List.set_cons_succ, i64_w, i32_w, IntKind.wrap_u8, IntKind.wrap_u16, IntKind.wrap_u32]; rfl))
                                          refine pure_ (i := 1) (N := some 67) (v := ?_) (a' := ?_) #[true, true, false, false, false, false, false, false, false, false, false, false, false, false, false, false, false] rfl rfl (any_of HT_.out (by kernel_rfl)) (fun _ _ _ h => h) (Or.inl ⟨by rfl, ?_⟩) ?_ ?_
                                          rotate_left; (focus (intro w'; go_simp; with_reducible rfl)); rotate_left; (focus (simp only [Act.put, List.setIfInBounds_toArray, List.set_cons_zero, List.set_cons_succ, i64_w, i32_w, IntKind.wrap_u8, IntKind.wrap_u16, IntKind.wrap_u32]; rfl))
                                          refine pure_ (i := 2) (N := some 68) (v := ?_) (a' := ?_) #[true, true, true, false, false, false, false, false, false, false, false, false, false, false, false, false, false] rfl rfl (any_of HT_.out (by kernel_rfl)) (fun _ _ _ h => h) (Or.inl ⟨by rfl, ?_⟩) ?_ ?_
                                          rotate_left; (focus (intro w'; go_simp; with_reducible rfl)); rotate_left; (focus (simp only [Act.put, List.setIfInBounds_toArray, List.set_cons_zero, List.set_cons_succ, i64_w, i32_w, IntKind.wrap_u8, IntKind.wrap_u16, IntKind.wrap_u32]; rfl))
                                          refine pure_ (i := 3) (N := some 69) (v := ?_) (a' := ?_) #[true, true, true, true, false, false, false, false, false, false, false, false, false, false, false, false, false] rfl rfl (any_of HT_.out (by kernel_rfl)) (fun _ _ _ h => h) (Or.inl ⟨by rfl, ?_⟩) ?_ ?_
                                          rotate_left; (focus (intro w'; go_simp; with_reducible rfl)); rotate_left; (focus (simp only [Act.put, List.setIfInBounds_toArray, List.set_cons_zero, List.set_cons_succ, i64_w, i32_w, IntKind.wrap_u8, IntKind.wrap_u16, IntKind.wrap_u32]; rfl))
                                          refine pure_ (i := 7) (N := some 73) (v := ?_) (a' := ?_) #[true, true, true, true, false, false, false, true, false, false, false, false, false, false, false, false, false] rfl rfl (any_of HT_.out (by kernel_rfl)) (fun _ _ _ h => h) (Or.inl ⟨by rfl, ?_⟩) ?_ ?_
                                          rotate_left; (focus (intro w'; go_simp; with_reducible rfl)); rotate_left; (focus (simp only [Act.put, List.setIfInBounds_toArray, List.set_cons_zero, List.set_cons_succ, i64_w, i32_w, IntKind.wrap_u8, IntKind.wrap_u16, IntKind.wrap_u32]; rfl))
                                          refine pure_ (i := 8) (N := some 74) (v := ?_) (a' := ?_) #[true, true, true, true, false, false, false, true, true, false, false, false, false, false, false, false, false] rfl rfl (any_of HT_.out (by kernel_rfl)) (fun _ _ _ h => h) (Or.inl ⟨by rfl, ?_⟩) ?_ ?_
                                          rotate_left; (focus (intro w'; go_simp; with_reducible rfl)); rotate_left; (focus (simp only [Act.put, List.setIfInBounds_toArray, List.set_cons_zero, List.set_cons_succ, i64_w, i32_w, IntKind.wrap_u8, IntKind.wrap_u16, IntKind.wrap_u32]; rfl))
                                          refine pure_ (i := 9) (N := some 75) (v := ?_) (a' := ?_) #[true, true, true, true, false, false, false, true, true, true, false, false, false, false, false, false, false] rfl rfl (any_of HT_.out (by kernel_rfl)) (fun _ _ _ h => h) (Or.inl ⟨by rfl, ?_⟩) ?_ ?_
                                          rotate_left; (focus (intro w'; go_simp; with_reducible rfl)); rotate_left; (focus (simp only [Act.put, List.setIfInBounds_toArray, List.set_cons_zero, List.set_cons_succ, i64_w, i32_w, IntKind.wrap_u8, IntKind.wrap_u16, IntKind.wrap_u32]; rfl))
                                          refine take_ (i := 4) (N := some 70) (v := ?_) (a' := ?_) #[true, true, true, true, true, false, false, true, true, true, false, false, false, false, false, false, false] rfl rfl (take_ofW HT_.out HW_.out (by kernel_rfl)) (fun _ _ _ h => h) (Or.inl ⟨by rfl, ?_⟩) hHeld ?_ ?_
                                          rotate_left
                                          · intro w' _
                                            go_simp
                                            with_reducible rfl
                                          rotate_left
                                          · simp only [Act.put, List.setIfInBounds_toArray, List.set_cons_zero, List.set_cons_succ, i64_w, i32_w, IntKind.wrap_u8, IntKind.wrap_u16, IntKind.wrap_u32]
                                            rfl
                                          refine take_ (i := 10) (N := some 76) (v := ?_) (a' := ?_) #[true, true, true, true, true, false, false, true, true, true, true, false, false, false, false, false, false] rfl rfl (take_ofW HT_.out HW_.out (by kernel_rfl)) (fun _ _ _ h => h) (Or.inl ⟨by rfl, ?_⟩) hHeld ?_ ?_
                                          rotate_left
                                          · intro w' _
                                            go_simp
                                            with_reducible rfl
                                          rotate_left
                                          · simp only [Act.put, List.setIfInBounds_toArray, List.set_cons_zero, List.set_cons_succ, i64_w, i32_w, IntKind.wrap_u8, IntKind.wrap_u16, IntKind.wrap_u32]
                                            rfl
                                          refine one_ (i := 5) (N := some 71) #[true, true, true, true, true, true, false, true, true, true, true, false, false, false, false, false, false] rfl rfl (one_of HT_.out (by kernel_rfl)) (by decide) (fun K hK => ?_)
                                          refine goes_ Tryz.func56 (by kernel_rfl) rfl #[.int .u8 (bt a0 (ji27))] (by rfl) rfl rfl (by (try simp only [List.map_toArray, List.map_cons, List.map_nil]); first | done | (simp only [hji27]; rfl) | rfl | (simp only [List.length_drop, List.length_take]; rfl)) ?_
                                          with_reducible refine (refrainref1_nibble.calls kj22 (bt a0 (ji27)) t291 _ A31.out).mono ?_
                                          rintro e w' ⟨rfl, ⟨nd, rfl⟩⟩
                                          refine ⟨_, rfl, ?_⟩
                                          refine hK.out _ _ trivial (fun hHeld => ?_)
                                          clear hK K
                                          refine norm_ (a' := ?_) ?_ ?_
                                          rotate_left
                                          · show Act.put _ (some 71) _ = _
                                            simp only [Act.put, List.setIfInBounds_toArray, List.set_cons_zero, List.set_cons_succ, i64_w, i32_w, IntKind.wrap_u8, IntKind.wrap_u16, IntKind.wrap_u32]
                                            rfl
                                          refine pure_ (i := 6) (N := some 72) (v := ?_) (a' := ?_) #[true, true, true, true, true, true, true, true, true, true, true, false, false, false, false, false, false] rfl rfl (any_of HT_.out (by kernel_rfl)) (fun _ _ _ h => h) (Or.inl ⟨by rfl, ?_⟩) ?_ ?_
                                          rotate_left; (focus (intro w'; go_simp; with_reducible rfl)); rotate_left; (focus (simp only [Act.put, List.setIfInBounds_toArray, List.set_cons_zero, List.set_cons_succ, i64_w, i32_w, IntKind.wrap_u8, IntKind.wrap_u16, IntKind.wrap_u32]; rfl))
                                          refine one_ (i := 11) (N := some 77) #[true, true, true, true, true, true, true, true, true, true, true, true, false, false, false, false, false] rfl rfl (one_of HT_.out (by kernel_rfl)) (by decide) (fun K hK => ?_)
                                          refine goes_ Tryz.func56 (by kernel_rfl) rfl #[.int .u8 (bt a0 (ji32))] (by rfl) rfl rfl (by (try simp only [List.map_toArray, List.map_cons, List.map_nil]); first | done | (simp only [hji32]; rfl) | rfl | (simp only [List.length_drop, List.length_take]; rfl)) ?_
                                          with_reducible refine (refrainref1_nibble.calls kj22 (bt a0 (ji32)) t292 _ A36.out).mono ?_
                                          rintro e w' ⟨rfl, ⟨nd, rfl⟩⟩
                                          refine ⟨_, rfl, ?_⟩
                                          refine hK.out _ _ trivial (fun hHeld => ?_)
                                          clear hK K
                                          refine norm_ (a' := ?_) ?_ ?_
                                          rotate_left
                                          · show Act.put _ (some 77) _ = _
                                            simp only [Act.put, List.setIfInBounds_toArray, List.set_cons_zero, List.set_cons_succ, i64_w, i32_w, IntKind.wrap_u8, IntKind.wrap_u16, IntKind.wrap_u32]
                                            rfl
                                          refine pure_ (i := 12) (N := some 78) (v := ?_) (a' := ?_) #[true, true, true, true, true, true, true, true, true, true, true, true, true, false, false, false, false] rfl rfl (any_of HT_.out (by kernel_rfl)) (fun _ _ _ h => h) (Or.inl ⟨by rfl, ?_⟩) ?_ ?_
                                          rotate_left; (focus (intro w'; go_simp; with_reducible rfl)); rotate_left; (focus (simp only [Act.put, List.setIfInBounds_toArray, List.set_cons_zero, List.set_cons_succ, i64_w, i32_w, IntKind.wrap_u8, IntKind.wrap_u16, IntKind.wrap_u32]; rfl))
                                          refine pure_ (i := 13) (N := some 79) (v := ?_) (a' := ?_) #[true, true, true, true, true, true, true, true, true, true, true, true, true, true, false, false, false] rfl rfl (any_of HT_.out (by kernel_rfl)) (fun _ _ _ h => h) (Or.inl ⟨by rfl, ?_⟩) ?_ ?_
                                          rotate_left; (focus (intro w'; go_simp; with_reducible rfl)); rotate_left; (focus (simp only [Act.put, List.setIfInBounds_toArray, List.set_cons_zero, List.set_cons_succ, i64_w, i32_w, IntKind.wrap_u8, IntKind.wrap_u16, IntKind.wrap_u32]; rfl))
                                          refine one_ (i := 14) (N := some 80) #[true, true, true, true, true, true, true, true, true, true, true, true, true, true, true, false, false] rfl rfl (one_of HT_.out (by kernel_rfl)) (by decide) (fun K hK => ?_)
                                          refine value_ (w1 := ?_) (v := ?_) (by rfl) rfl ?_ ?_
                                          rotate_left 2
                                          · go_simp
                                            constructor
                                            · rfl
                                            · rfl
                                          refine hK.out _ _ trivial (fun hHeld => ?_)
                                          clear hK K
                                          refine norm_ (a' := ?_) ?_ ?_
                                          rotate_left
                                          · show Act.put _ (some 80) _ = _
                                            simp only [Act.put, List.setIfInBounds_toArray, List.set_cons_zero, List.set_cons_succ, i64_w, i32_w, IntKind.wrap_u8, IntKind.wrap_u16, IntKind.wrap_u32]
                                            rfl
                                          refine one_ (i := 15) (N := some 81) #[true, true, true, true, true, true, true, true, true, true, true, true, true, true, true, true, false] rfl rfl (one_of HT_.out (by kernel_rfl)) (by decide) (fun K hK => ?_)
                                          refine Kd.R_append_step (Kd.int .u8) (w0 := w) w.heap.size (by rfl) (.tmp 66) (.tmp 80) 60 5 (.int .u8 0) 1 rfl Tryz.underlying60 info5 rfl (by decide) (by omega) u3 x3_1 ((wrap64 ((wrap64 (t291 * 16)) + t292)) % 256) [.int .u8 ((wrap64 ((wrap64 (t291 * 16)) + t292)) % 256)] (fun _ => True) (fun _ => False) rfl rfl ?aP (fun _ hk => hk.elim) ?aF ?aO ?aB ?aS ?aL ?_
                                          (case aP => exact rfl)
                                          (case aB => exact (hbT HB.out))
                                          (case aF => exact (fun _ _ => trivial))
                                          (case aO => exact (by (with_reducible repeat (first | apply Kd.R_alloc | apply Kd.R_drewN | apply Kd.R_drew)); exact HO_3.out))
                                          (case aS => exact (below_size (hbT HB.out)))
                                          (case aL => have := LMc37.out; omega)
                                          intro v294 w39 ho hb hg hat
                                          rw [← Ny293.out] at ho
                                          have n0_ := Aside0.mk (blk_grown (g := gb281) (o := .cells #[.int .i64 0, .int .i64 0, .string (⟨#[]⟩ : ByteArray), .bool false] 27 (0, 0)) (bkT BK281.out) hg (Kd.R_ne HO_3.out BK281.out (by decide))); have n1_ := Aside0.mk (hb); have n2_ := Aside0.mk (ho); clear BK281; clear HB; clear HO_3; have BK281 := n0_; have HB := n1_; have HO295 := n2_; clear n0_ n1_ n2_
                                          clear ho hb hg hat
                                          refine hK.out _ _ trivial (fun hHeld => ?_)
                                          clear hK K
                                          refine norm_ (a' := ?_) ?_ ?_
                                          rotate_left
                                          · show Act.put _ (some 81) _ = _
                                            simp only [Act.put, List.setIfInBounds_toArray, List.set_cons_zero, List.set_cons_succ, i64_w, i32_w, IntKind.wrap_u8, IntKind.wrap_u16, IntKind.wrap_u32]
                                            rfl
                                          refine pure_ (i := 16) (N := some 3) (v := ?_) (a' := ?_) #[true, true, true, true, true, true, true, true, true, true, true, true, true, true, true, true, true] rfl rfl (any_of HT_.out (by kernel_rfl)) (fun _ _ _ h => h) (Or.inl ⟨by rfl, ?_⟩) ?_ ?_
                                          rotate_left; (focus (intro w'; go_simp; with_reducible rfl)); rotate_left; (focus (simp only [Act.put, List.setIfInBounds_toArray, List.set_cons_zero, List.set_cons_succ, i64_w, i32_w, IntKind.wrap_u8, IntKind.wrap_u16, IntKind.wrap_u32]; rfl))
                                          refine done_ (done_of HT_.out (by kernel_rfl)) ?_
                                          try go_wp2
                                          go_roundg kj22
                                          case measure => have := HK1.out; have := HJ6.out; have := HJ22.out; omega
                                          case rel => exact ⟨(y293), (wrap64 ((ji32) + 1)), (by first | rfl | (simp; done) | (simp only [← hji32] <;> (first | rfl | simp)) | (simp [*]; done)), H', ⟨by have := HK1.out; have := HJ6.out; have := HJ22.out; omega⟩, ⟨by (with_reducible repeat (first | apply Kd.R_alloc | apply Kd.R_drewN | apply Kd.R_drew)); exact HO295.out⟩, ⟨bkT BK281.out⟩, ⟨hbT HB.out⟩⟩
                                        · rw [if_neg c37] at H
                                          exact absurd H (by simp)
                                      · rw [if_neg c34] at H
                                        exact absurd H (by simp)
                                    · rw [if_neg c33] at H
                                      exact absurd H (by simp)
                                  · rw [if_neg c29] at H
                                    exact absurd H (by simp)
                                · rw [if_neg c28] at H
                                  exact absurd H (by simp)
                              · replace c26 := Bool.eq_false_iff.mpr c26
                                subst c26
                                have H1 : (if 0 ≤ ji12 then (if ji12 < (a0.size : Int) then (if x3_1.length < 140737488355328 then (refrainref1_unquoted.l0 kj22 a0 (x3_1 ++ [bt a0 ji12]) (wrap64 (ji12 + 1))) else (none)) else (none)) else (none)) = some (r1, r2, r3, r4) := by rw [if_neg (show ¬ (false = true) by decide)] at H; exact H
                                clear H
                                have H := H1
                                clear H1
                                by_cases c40 : 0 ≤ ji12
                                · rw [if_pos c40] at H
                                  have c40b0 : decide (0 ≤ ji12) = true := decide_eq_true c40
                                  clear c40
                                  by_cases c41 : ji12 < (a0.size : Int)
                                  · rw [if_pos c41] at H
                                    have c41b0 : decide (ji12 < (a0.size : Int)) = true := decide_eq_true c41
                                    clear c41
                                    by_cases c43 : x3_1.length < 140737488355328
                                    · rw [if_pos c43] at H
                                      have LMc43 := Aside0.mk c43
                                      clear c43
                                      obtain ⟨y296, hy296⟩ : ∃ y_ : List Int, y_ = (x3_1 ++ [bt a0 ji12]) := ⟨_, rfl⟩
                                      replace H : (refrainref1_unquoted.l0 kj22 a0 y296 (wrap64 (ji12 + 1))) = some (r1, r2, r3, r4) := by first | (rw [hy296]; with_reducible exact H) | (have H2_ := (Option.bind_some _ _).symm.trans H; rw [hy296]; with_reducible exact H2_) | (have H2_ := (Option.bind_some _ _).symm.trans H; with_reducible exact H2_) | with_reducible exact H | (rw [hy296]; exact H) | exact H
                                      have Ny296 := Aside0.mk hy296
                                      clear hy296
                                      have H' := Aside0.mk H
                                      clear H
                                      have p42 : 0 ≤ (ji12 : Int) := of_decide_eq_true (by first | (with_reducible assumption) | assumption)
                                      have q42 : ji12 < (a0.size : Int) := of_decide_eq_true (by first | (with_reducible assumption) | assumption)
                                      have hx42 := bt_at a0 ji12
                                      replace p42 := eq_true p42
                                      replace q42 := eq_true q42
                                      go_wp2_with (first | ((with_reducible refine gate_builtin (b := .append) (xs := #[.tmp 32, .tmp 36]) rfl ?_); (try (refine gate_guard (by rfl) ?_; dsimp only)); at_builtin; refine Kd.R_append (Kd.int .u8) (w0 := w) w.heap.size rfl (.tmp 32) (.tmp 36) 60 5 (.int .u8 0) 1 rfl Tryz.underlying60 info5 rfl (by decide) (by omega) u3 x3_1 (bt a0 ji12) [.int .u8 (bt a0 ji12)] (fun _ => True) (fun _ => False) rfl rfl ?aP (fun _ hk => hk.elim) ?aF ?aO ?aB ?aS ?aL ?_; (case aP => exact rfl); (case aB => exact (hbT HB.out)); (case aF => exact (fun _ _ => trivial)); (case aO => exact (by (with_reducible repeat (first | apply Kd.R_alloc | apply Kd.R_drewN | apply Kd.R_drew)); exact HO_3.out)); (case aS => exact (below_size (hbT HB.out))); (case aL => have := LMc43.out; omega); intro v297 w44 ho hb hg hat; rw [← Ny296.out] at ho; have n0_ := Aside0.mk (blk_grown (g := gb281) (o := .cells #[.int .i64 0, .int .i64 0, .string (⟨#[]⟩ : ByteArray), .bool false] 27 (0, 0)) (bkT BK281.out) hg (Kd.R_ne HO_3.out BK281.out (by decide))); have n1_ := Aside0.mk (hb); have n2_ := Aside0.mk (ho); clear BK281; clear HB; clear HO_3; have BK281 := n0_; have HB := n1_; have HO298 := n2_; clear n0_ n1_ n2_; clear ho hb hg hat))
                                      go_roundg kj22
                                      case measure => have := HK1.out; have := HJ6.out; have := HJ22.out; omega
                                      case rel => exact ⟨(y296), (wrap64 (ji12 + 1)), (by first | rfl | (simp; done) | (simp only [← hji12] <;> (first | rfl | simp)) | (simp [*]; done)), H', ⟨by have := HK1.out; have := HJ6.out; have := HJ22.out; omega⟩, ⟨by (with_reducible repeat (first | apply Kd.R_alloc | apply Kd.R_drewN | apply Kd.R_drew)); exact HO298.out⟩, ⟨bkT BK281.out⟩, ⟨hbT HB.out⟩⟩
                                    · rw [if_neg c43] at H
                                      exact absurd H (by simp)
                                  · rw [if_neg c41] at H
                                    exact absurd H (by simp)
                                · rw [if_neg c40] at H
                                  exact absurd H (by simp)
                    · rw [if_neg c14] at H
                      exact absurd H (by simp)
                  · rw [if_neg c13] at H
                    exact absurd H (by simp)
          · rw [if_neg c5] at H
            exact absurd H (by simp)
        · rw [if_neg c4] at H
          exact absurd H (by simp)
      · rw [if_neg c3] at H
        have c3b0 : decide (x4_1 < (wrap64 ((a0.size : Int) - 1))) = false := decide_eq_false c3
        clear c3
        simp only [Option.some.injEq, Prod.mk.injEq] at H
        obtain ⟨rfl, rfl, rfl, rfl⟩ := H
        have hcv45 := own_string (P := Tryz.prog) Tryz.underlying60 Tryz.underlying5 Tryz.underlying9 (Kd.own_of_R HO_3.out)
        have hcz46_0 : wr.cell? ⟨gb281, 0, none⟩ = some (.int .i64 0) := (blk_cell BK281.out 0).trans rfl; have hcz46_1 : wr.cell? ⟨gb281, 1, none⟩ = some (.int .i64 0) := (blk_cell BK281.out 1).trans rfl; have hcz46_2 : wr.cell? ⟨gb281, 2, none⟩ = some (.string (⟨#[]⟩ : ByteArray)) := (blk_cell BK281.out 2).trans rfl; have hcz46_3 : wr.cell? ⟨gb281, 3, none⟩ = some (.bool false) := (blk_cell BK281.out 3).trans rfl; have hfz46_0 := blk_frozen BK281.out 0; have hfz46_1 := blk_frozen BK281.out 1; have hfz46_2 := blk_frozen BK281.out 2; have hfz46_3 := blk_frozen BK281.out 3
        go_wp2
        refine bodyPost_ret (results_cell_row rfl _ _ gb281 27 #[.int .i64 2, .int .i64 0, .string (strOfNums x3_1), .bool false] (0, 0) _ rfl (by (with_reducible repeat (first | refine blk_drewN ?_ _ | refine blk_drew ?_ | refine blk_alloc ?_ _)); refine blk_put (cs := #[.int .i64 2, .int .i64 0, .string (strOfNums x3_1), .bool false]) ?_ 3 _ rfl; (with_reducible repeat (first | refine blk_drewN ?_ _ | refine blk_drew ?_ | refine blk_alloc ?_ _)); refine blk_put (cs := #[.int .i64 2, .int .i64 0, .string (⟨#[]⟩ : ByteArray), .bool false]) ?_ 2 _ rfl; (with_reducible repeat (first | refine blk_drewN ?_ _ | refine blk_drew ?_ | refine blk_alloc ?_ _)); refine blk_put (cs := #[.int .i64 2, .int .i64 0, .string (⟨#[]⟩ : ByteArray), .bool false]) ?_ 1 _ rfl; (with_reducible repeat (first | refine blk_drewN ?_ _ | refine blk_drew ?_ | refine blk_alloc ?_ _)); refine blk_put (cs := #[.int .i64 0, .int .i64 0, .string (⟨#[]⟩ : ByteArray), .bool false]) ?_ 0 _ rfl; (with_reducible repeat (first | refine blk_drewN ?_ _ | refine blk_drew ?_ | refine blk_alloc ?_ _)); exact BK281.out) Tryz.underlying27 rfl (by kernel_rfl)) rfl ?_
        exact ⟨by first | rfl | (simp [errW_none, errW_some] <;> rfl) | (simp [*, errW_none, errW_some] <;> rfl), hbT HB.out⟩

/-! ### refrainref1_Read: function 12 -/
def refrainref1_Read.j0 : Nat → ByteArray → Bool → Option (Int × Int × ByteArray × Bool × Int)
  | 0, _, _ => none
  | k + 1, x0, x13 => if x13 = true then (some (0, 0, (⟨#[]⟩ : ByteArray), false, 12)) else ((refrainref1_guessed.f k x0).bind fun bt300 => (if 0 < (x0.size : Int) then (if (bt x0 0) = 34 then ((refrainref1_unquoted.f k x0).bind fun bt305 => ((refrainref1_Show.f k bt305.1 bt305.2.1 bt305.2.2.1 bt305.2.2.2).bind fun bt309 => (if bt309.2 = 0 then (if bt309.1.toList = x0.toList then (some (bt305.1, bt305.2.1, bt305.2.2.1, bt305.2.2.2, 0)) else (some (0, 0, (⟨#[]⟩ : ByteArray), false, 12))) else (some (0, 0, (⟨#[]⟩ : ByteArray), false, 12))))) else (if (bt x0 0) = 84 then ((refrainref1_Show.f k 3 0 (⟨#[]⟩ : ByteArray) true).bind fun bt311 => (if bt311.2 = 0 then (if bt311.1.toList = x0.toList then (some (3, 0, (⟨#[]⟩ : ByteArray), true, 0)) else (some (0, 0, (⟨#[]⟩ : ByteArray), false, 12))) else (some (0, 0, (⟨#[]⟩ : ByteArray), false, 12)))) else (if (bt x0 0) = 70 then ((refrainref1_Show.f k 3 0 (⟨#[]⟩ : ByteArray) false).bind fun bt313 => (if bt313.2 = 0 then (if bt313.1.toList = x0.toList then (some (3, 0, (⟨#[]⟩ : ByteArray), false, 0)) else (some (0, 0, (⟨#[]⟩ : ByteArray), false, 12))) else (some (0, 0, (⟨#[]⟩ : ByteArray), false, 12)))) else ((refrainref1_Show.f k bt300.1 bt300.2.1 bt300.2.2.1 bt300.2.2.2).bind fun bt315 => (if bt315.2 = 0 then (if bt315.1.toList = x0.toList then (some (bt300.1, bt300.2.1, bt300.2.2.1, bt300.2.2.2, 0)) else (some (0, 0, (⟨#[]⟩ : ByteArray), false, 12))) else (some (0, 0, (⟨#[]⟩ : ByteArray), false, 12))))))) else (none)))
def refrainref1_Read.f (k : Nat) (a0 : ByteArray) : Option (Int × Int × ByteArray × Bool × Int) := if (a0.size : Int) > 1026 then (refrainref1_Read.j0 k a0 true) else (refrainref1_Read.j0 k a0 (a0.toList == ([] : List UInt8)))
set_option maxRecDepth 100000 in
theorem refrainref1_Read.j0_zero : ∀ y0 y1, refrainref1_Read.j0 0 y0 y1 = none := fun _ _ => rfl
set_option maxRecDepth 100000 in
theorem refrainref1_Read.mono_l : ∀ k, (∀ y0 y1, LeO (refrainref1_Read.j0 k y0 y1) (refrainref1_Read.j0 (k + 1) y0 y1))
  | 0 => fun _ _ r h => by (unfold refrainref1_Read.j0 at h; cases h)
  | k + 1 => by
    have ih0 := refrainref1_Read.mono_l k
    · intro y0 y1
      unfold refrainref1_Read.j0
      repeat' first
      | (with_reducible exact ih0 _ _)
      | (with_reducible exact refrainref1_Show.mono _ _ _ _ _)
      | (with_reducible exact refrainref1_guessed.mono _ _)
      | (with_reducible exact refrainref1_unquoted.mono _ _)
      | (with_reducible exact LeO.refl _)
      | (with_reducible exact LeO.none _)
      | (with_reducible refine LeO.ite ?_ ?_)
      | (with_reducible refine LeO.bind ?_ (fun _ => ?_))
      | exact ih0 _ _
      | exact refrainref1_Show.mono _ _ _ _ _
      | exact refrainref1_guessed.mono _ _
      | exact refrainref1_unquoted.mono _ _
      | exact LeO.none _
      | refine LeO.ite ?_ ?_
      | refine LeO.bind ?_ (fun _ => ?_)
set_option maxRecDepth 100000 in
theorem refrainref1_Read.mono : ∀ a0 k, LeO (refrainref1_Read.f k a0) (refrainref1_Read.f (k + 1) a0) := by
  intro a0 k
  have ih0 := refrainref1_Read.mono_l k
  unfold refrainref1_Read.f
  repeat' first
      | (with_reducible exact ih0 _ _)
      | (with_reducible exact refrainref1_Show.mono _ _ _ _ _)
      | (with_reducible exact refrainref1_guessed.mono _ _)
      | (with_reducible exact refrainref1_unquoted.mono _ _)
      | (with_reducible exact LeO.refl _)
      | (with_reducible exact LeO.none _)
      | (with_reducible refine LeO.ite ?_ ?_)
      | (with_reducible refine LeO.bind ?_ (fun _ => ?_))
      | exact ih0 _ _
      | exact refrainref1_Show.mono _ _ _ _ _
      | exact refrainref1_guessed.mono _ _
      | exact refrainref1_unquoted.mono _ _
      | exact LeO.none _
      | refine LeO.ite ?_ ?_
      | refine LeO.bind ?_ (fun _ => ?_)
set_option maxHeartbeats 8000000 in
set_option maxRecDepth 100000 in
theorem refrainref1_Read.calls (k : Nat) (a0 : ByteArray) (r1 : Int) (r2 : Int) (r3 : ByteArray) (r4 : Bool) (r5 : Int) (w : World) (h : refrainref1_Read.f k a0 = some (r1, r2, r3, r4, r5)) :
    Calls Tryz.prog 12 #[.string a0] w fun e w' => e = .returned (.tuple #[.agg #[.int .i64 r1, .int .i64 r2, .string r3, .bool r4], .int .i64 r5]) ∧ Below w.heap.size w w' := by
  have hu27 := Tryz.underlying27
  have HB := Aside0.mk (Below.refl w.heap.size w)
  have H : (if (a0.size : Int) > 1026 then (refrainref1_Read.j0 k a0 true) else (refrainref1_Read.j0 k a0 (a0.toList == ([] : List UInt8)))) = some (r1, r2, r3, r4, r5) := h
  clear h
  have HC2 := Aside0.mk H
  clear H
  go_enter Tryz.func12, Tryz.ntmps12
  go_upto_region 1 with (first | ((with_reducible refine gate_dst (N := 2) rfl ?_); refine box_event ?hg (N := 2) ?hd (cs := #[.int .i64 0, .int .i64 0, .string (⟨#[]⟩ : ByteArray), .bool false]) (t := 27) ?hr ?_; (case hd => rfl); (case hg => rfl); (case hr => first | (go_simp; done) | (go_simp; rfl)); intro gb299 hg w3 hbox hb; have BK299 := Aside0.mk hbox; have GW299 := geA hg HB; have GE299 := geA hg HB; replace HB := bsA HB hb; clear hb hbox hg))
  (try simp only [Act.put, List.setIfInBounds_toArray, List.set_cons_zero, List.set_cons_succ])
  go_cut [13] (fun v13 wc => ∃ (kq : Nat) (x13_1 : Bool), v13 = .bool x13_1 ∧ Aside0 (refrainref1_Read.j0 kq a0 x13_1 = some (r1, r2, r3, r4, r5)) ∧ Aside0 (kq ≤ k) ∧ Aside0 (wc.heap[gb299]? = some (.cells #[.int .i64 0, .int .i64 0, .string (⟨#[]⟩ : ByteArray), .bool false] 27 (0, 0))) ∧ Aside0 (Below w.heap.size w wc))
  case first =>
    have H := HC2.out
    clear HC2
    by_cases c4 : (a0.size : Int) > 1026
    · rw [if_pos c4] at H
      have c4b0 : decide (1026 < (a0.size : Int)) = true := decide_eq_true c4
      have c4b1 : decide (1026 < a0.size) = true := decide_eq_true (by omega)
      clear c4
      (first | rw [c4b0] | (simp only [i64_w, i32_w, IntKind.wrap_u8, IntKind.wrap_u16, IntKind.wrap_u32]; rw [c4b0]) | skip)
      have H' := Aside0.mk H
      clear H
      go_wp2
      go_meet
      case rel => exact ⟨_, (true), (by first | rfl | (simp; done) | (simp [*]; done) | (simp; unfold wrap64; omega) | (congr 1; (try rw [Bool.eq_iff_iff]); simp [List.isEmpty_iff]; done)), H', ⟨by first | omega | exact Nat.le_refl _⟩, ⟨bkT BK299.out⟩, ⟨hbT HB.out⟩⟩
    · rw [if_neg c4] at H
      have c4b0 : decide (1026 < (a0.size : Int)) = false := decide_eq_false c4
      have c4b1 : decide (1026 < a0.size) = false := decide_eq_false (by omega)
      clear c4
      (first | rw [c4b0] | (simp only [i64_w, i32_w, IntKind.wrap_u8, IntKind.wrap_u16, IntKind.wrap_u32]; rw [c4b0]) | skip)
      have H' := Aside0.mk H
      clear H
      go_wp2
      go_meet
      case rel => exact ⟨_, ((a0.toList == ([] : List UInt8))), (by first | rfl | (simp; done) | (simp [*]; done) | (simp; unfold wrap64; omega) | (congr 1; (try rw [Bool.eq_iff_iff]); simp [List.isEmpty_iff]; done)), H', ⟨by first | omega | exact Nat.le_refl _⟩, ⟨bkT BK299.out⟩, ⟨hbT HB.out⟩⟩
  case rest =>
    clear HC2
    try clear c1
    try clear p2
    try clear c4
    try clear c4b0
    try clear c4b1
    obtain ⟨kq, x13_1, rfl, HA, HJ1, BK299, HB⟩ := hcut
    cases kq with
    | zero => (have HA2 := HA.out; clear HA; revert HA2; rw [refrainref1_Read.j0_zero]; intro h_; cases h_)
    | succ kj1 =>
      have H := HA.out
      clear HA
      simp only [refrainref1_Read.j0] at H
      by_cases c5 : x13_1 = true
      · subst c5
        have H1 : (some (0, 0, (⟨#[]⟩ : ByteArray), false, 12)) = some (r1, r2, r3, r4, r5) := by rw [if_pos rfl] at H; exact H
        clear H
        have H := H1
        clear H1
        simp only [Option.some.injEq, Prod.mk.injEq] at H
        obtain ⟨rfl, rfl, rfl, rfl, rfl⟩ := H
        have hcz6_0 : wc.cell? ⟨gb299, 0, none⟩ = some (.int .i64 0) := (blk_cell BK299.out 0).trans rfl; have hcz6_1 : wc.cell? ⟨gb299, 1, none⟩ = some (.int .i64 0) := (blk_cell BK299.out 1).trans rfl; have hcz6_2 : wc.cell? ⟨gb299, 2, none⟩ = some (.string (⟨#[]⟩ : ByteArray)) := (blk_cell BK299.out 2).trans rfl; have hcz6_3 : wc.cell? ⟨gb299, 3, none⟩ = some (.bool false) := (blk_cell BK299.out 3).trans rfl; have hfz6_0 := blk_frozen BK299.out 0; have hfz6_1 := blk_frozen BK299.out 1; have hfz6_2 := blk_frozen BK299.out 2; have hfz6_3 := blk_frozen BK299.out 3
        go_wp2
        refine bodyPost_ret (results_ct rfl _ _ gb299 27 #[.int .i64 0, .int .i64 0, .string (⟨#[]⟩ : ByteArray), .bool false] (0, 0) _ rfl (by (with_reducible repeat (first | refine blk_drewN ?_ _ | refine blk_drew ?_ | refine blk_alloc ?_ _)); refine blk_put (cs := #[.int .i64 0, .int .i64 0, .string (⟨#[]⟩ : ByteArray), .bool false]) ?_ 3 _ rfl; (with_reducible repeat (first | refine blk_drewN ?_ _ | refine blk_drew ?_ | refine blk_alloc ?_ _)); refine blk_put (cs := #[.int .i64 0, .int .i64 0, .string (⟨#[]⟩ : ByteArray), .bool false]) ?_ 2 _ rfl; (with_reducible repeat (first | refine blk_drewN ?_ _ | refine blk_drew ?_ | refine blk_alloc ?_ _)); refine blk_put (cs := #[.int .i64 0, .int .i64 0, .string (⟨#[]⟩ : ByteArray), .bool false]) ?_ 1 _ rfl; (with_reducible repeat (first | refine blk_drewN ?_ _ | refine blk_drew ?_ | refine blk_alloc ?_ _)); refine blk_put (cs := #[.int .i64 0, .int .i64 0, .string (⟨#[]⟩ : ByteArray), .bool false]) ?_ 0 _ rfl; (with_reducible repeat (first | refine blk_drewN ?_ _ | refine blk_drew ?_ | refine blk_alloc ?_ _)); exact BK299.out) Tryz.underlying27 rfl (by kernel_rfl)) rfl ?_
        exact ⟨by first | rfl | (simp [errW_none, errW_some] <;> rfl) | (simp [*, errW_none, errW_some] <;> rfl), hbT HB.out⟩
      · replace c5 := Bool.eq_false_iff.mpr c5
        subst c5
        have H1 : ((refrainref1_guessed.f kj1 a0).bind fun bt300 => (if 0 < (a0.size : Int) then (if (bt a0 0) = 34 then ((refrainref1_unquoted.f kj1 a0).bind fun bt305 => ((refrainref1_Show.f kj1 bt305.1 bt305.2.1 bt305.2.2.1 bt305.2.2.2).bind fun bt309 => (if bt309.2 = 0 then (if bt309.1.toList = a0.toList then (some (bt305.1, bt305.2.1, bt305.2.2.1, bt305.2.2.2, 0)) else (some (0, 0, (⟨#[]⟩ : ByteArray), false, 12))) else (some (0, 0, (⟨#[]⟩ : ByteArray), false, 12))))) else (if (bt a0 0) = 84 then ((refrainref1_Show.f kj1 3 0 (⟨#[]⟩ : ByteArray) true).bind fun bt311 => (if bt311.2 = 0 then (if bt311.1.toList = a0.toList then (some (3, 0, (⟨#[]⟩ : ByteArray), true, 0)) else (some (0, 0, (⟨#[]⟩ : ByteArray), false, 12))) else (some (0, 0, (⟨#[]⟩ : ByteArray), false, 12)))) else (if (bt a0 0) = 70 then ((refrainref1_Show.f kj1 3 0 (⟨#[]⟩ : ByteArray) false).bind fun bt313 => (if bt313.2 = 0 then (if bt313.1.toList = a0.toList then (some (3, 0, (⟨#[]⟩ : ByteArray), false, 0)) else (some (0, 0, (⟨#[]⟩ : ByteArray), false, 12))) else (some (0, 0, (⟨#[]⟩ : ByteArray), false, 12)))) else ((refrainref1_Show.f kj1 bt300.1 bt300.2.1 bt300.2.2.1 bt300.2.2.2).bind fun bt315 => (if bt315.2 = 0 then (if bt315.1.toList = a0.toList then (some (bt300.1, bt300.2.1, bt300.2.2.1, bt300.2.2.2, 0)) else (some (0, 0, (⟨#[]⟩ : ByteArray), false, 12))) else (some (0, 0, (⟨#[]⟩ : ByteArray), false, 12))))))) else (none))) = some (r1, r2, r3, r4, r5) := by rw [if_neg (show ¬ (false = true) by decide)] at H; exact H
        clear H
        have H := H1
        clear H1
        replace H := Option.bind_eq_some_iff.mp H
        obtain ⟨⟨t300, t301, t302, t303⟩, A70, H⟩ := H
        replace H : (if 0 < (a0.size : Int) then (if (bt a0 0) = 34 then ((refrainref1_unquoted.f kj1 a0).bind fun bt305 => ((refrainref1_Show.f kj1 bt305.1 bt305.2.1 bt305.2.2.1 bt305.2.2.2).bind fun bt309 => (if bt309.2 = 0 then (if bt309.1.toList = a0.toList then (some (bt305.1, bt305.2.1, bt305.2.2.1, bt305.2.2.2, 0)) else (some (0, 0, (⟨#[]⟩ : ByteArray), false, 12))) else (some (0, 0, (⟨#[]⟩ : ByteArray), false, 12))))) else (if (bt a0 0) = 84 then ((refrainref1_Show.f kj1 3 0 (⟨#[]⟩ : ByteArray) true).bind fun bt311 => (if bt311.2 = 0 then (if bt311.1.toList = a0.toList then (some (3, 0, (⟨#[]⟩ : ByteArray), true, 0)) else (some (0, 0, (⟨#[]⟩ : ByteArray), false, 12))) else (some (0, 0, (⟨#[]⟩ : ByteArray), false, 12)))) else (if (bt a0 0) = 70 then ((refrainref1_Show.f kj1 3 0 (⟨#[]⟩ : ByteArray) false).bind fun bt313 => (if bt313.2 = 0 then (if bt313.1.toList = a0.toList then (some (3, 0, (⟨#[]⟩ : ByteArray), false, 0)) else (some (0, 0, (⟨#[]⟩ : ByteArray), false, 12))) else (some (0, 0, (⟨#[]⟩ : ByteArray), false, 12)))) else ((refrainref1_Show.f kj1 t300 t301 t302 t303).bind fun bt315 => (if bt315.2 = 0 then (if bt315.1.toList = a0.toList then (some (t300, t301, t302, t303, 0)) else (some (0, 0, (⟨#[]⟩ : ByteArray), false, 12))) else (some (0, 0, (⟨#[]⟩ : ByteArray), false, 12))))))) else (none)) = some (r1, r2, r3, r4, r5) := H
        have A7 := Aside0.mk A70
        clear A70
        by_cases c8 : 0 < (a0.size : Int)
        · rw [if_pos c8] at H
          have c8b0 : decide (0 < (a0.size : Int)) = true := decide_eq_true c8
          have c8b1 : decide (0 < a0.size) = true := decide_eq_true (by omega)
          clear c8
          by_cases c10 : (bt a0 0) = 34
          · rw [if_pos c10] at H
            have c10b0 : ((bt a0 0) == 34) = true := beq_iff_eq.mpr c10
            have c10b1 : ((bt a0 0) != 34) = false := bne_eq_false_iff_eq.mpr c10
            clear c10
            replace H := Option.bind_eq_some_iff.mp H
            obtain ⟨⟨t305, t306, t307, t308⟩, A110, H⟩ := H
            replace H : ((refrainref1_Show.f kj1 t305 t306 t307 t308).bind fun bt309 => (if bt309.2 = 0 then (if bt309.1.toList = a0.toList then (some (t305, t306, t307, t308, 0)) else (some (0, 0, (⟨#[]⟩ : ByteArray), false, 12))) else (some (0, 0, (⟨#[]⟩ : ByteArray), false, 12)))) = some (r1, r2, r3, r4, r5) := H
            have A11 := Aside0.mk A110
            clear A110
            replace H := Option.bind_eq_some_iff.mp H
            obtain ⟨⟨t309, t310⟩, A120, H⟩ := H
            replace H : (if t310 = 0 then (if t309.toList = a0.toList then (some (t305, t306, t307, t308, 0)) else (some (0, 0, (⟨#[]⟩ : ByteArray), false, 12))) else (some (0, 0, (⟨#[]⟩ : ByteArray), false, 12))) = some (r1, r2, r3, r4, r5) := H
            have A12 := Aside0.mk A120
            clear A120
            by_cases c13 : t310 = 0
            · rw [if_pos c13] at H
              have c13b0 : (t310 == 0) = true := beq_iff_eq.mpr c13
              have c13b1 : (t310 != 0) = false := bne_eq_false_iff_eq.mpr c13
              clear c13
              by_cases c14 : t309.toList = a0.toList
              · rw [if_pos c14] at H
                have c14b0 : (t309.toList == a0.toList) = true := beq_iff_eq.mpr c14
                have c14b1 : (t309.toList != a0.toList) = false := bne_eq_false_iff_eq.mpr c14
                clear c14
                simp only [Option.some.injEq, Prod.mk.injEq] at H
                obtain ⟨rfl, rfl, rfl, rfl, rfl⟩ := H
                go_wp2_with (first | ((with_reducible refine gate_callee (f := 30) rfl ?_); refine goesT (some 16) Tryz.func30 #[.string a0] ?_; (with_reducible refine (refrainref1_guessed.calls kj1 a0 t300 t301 t302 t303 _ A7.out).mono ?_); rintro e w15 ⟨rfl, hb⟩; refine ⟨_, rfl, ?_⟩; replace BK299 := bbA BK299 hb; replace HB := bsA HB hb; (try clear hb); (try clear hb2); (try clear hk); (try clear hi)) | ((with_reducible refine gate_dst (N := 4) rfl ?_); refine box_event ?hg (N := 4) ?hd (cs := #[.int .i64 0, .int .i64 0, .string (⟨#[]⟩ : ByteArray), .bool false]) (t := 27) ?hr ?_; (case hd => rfl); (case hg => rfl); (case hr => first | (go_simp; done) | (go_simp; rfl)); intro gb304 hg w16 hbox hb; have BK304 := Aside0.mk hbox; have GW304 := geA hg HB; have GE304 := geA hg HB; have NB299_304 := neA hg BK299; have NB304_299 := neB hg BK299; replace BK299 := bbA BK299 hb; replace HB := bsA HB hb; clear hb hbox hg; have hnb17 := NB304_299.out; have hnc17 := NB299_304.out; have hcz18_0 : w16.cell? ⟨gb304, 0, none⟩ = some (.int .i64 0) := (blk_cell BK304.out 0).trans rfl; have hcz18_1 : w16.cell? ⟨gb304, 1, none⟩ = some (.int .i64 0) := (blk_cell BK304.out 1).trans rfl; have hcz18_2 : w16.cell? ⟨gb304, 2, none⟩ = some (.string (⟨#[]⟩ : ByteArray)) := (blk_cell BK304.out 2).trans rfl; have hcz18_3 : w16.cell? ⟨gb304, 3, none⟩ = some (.bool false) := (blk_cell BK304.out 3).trans rfl; have hfz18_0 := blk_frozen BK304.out 0; have hfz18_1 := blk_frozen BK304.out 1; have hfz18_2 := blk_frozen BK304.out 2; have hfz18_3 := blk_frozen BK304.out 3; have p9 : 0 ≤ (0 : Int) := (by omega); have q9 : 0 < a0.size := (by have : (0 : Int) < (a0.size : Int) := of_decide_eq_true (by first | (with_reducible assumption) | assumption); omega); have hx9 : ∀ h : 0 < a0.size, ((a0[0]'h).toNat : Int) = bt a0 0 := bt_at a0 0; clear p9; have qi9 : (0 < (a0.size : Int)) = True := eq_true (of_decide_eq_true (by first | (with_reducible assumption) | assumption)); replace q9 := eq_true q9) | ((with_reducible refine gate_callee (f := 31) rfl ?_); refine goesT (some 22) Tryz.func31 #[.string a0] ?_; (with_reducible refine (refrainref1_unquoted.calls kj1 a0 t305 t306 t307 t308 _ A11.out).mono ?_); rintro e w19 ⟨rfl, hb⟩; refine ⟨_, rfl, ?_⟩; replace BK299 := Aside0.mk (blk_below (g := gb299) (o := .cells #[.int .i64 0, .int .i64 0, .string (⟨#[]⟩ : ByteArray), .bool false] 27 (0, 0)) (by (with_reducible repeat (first | refine blk_drewN ?_ _ | refine blk_drew ?_ | refine blk_alloc ?_ _)); refine blk_far ?_ NB299_304.out _; (with_reducible repeat (first | refine blk_drewN ?_ _ | refine blk_drew ?_ | refine blk_alloc ?_ _)); refine blk_far ?_ NB299_304.out _; (with_reducible repeat (first | refine blk_drewN ?_ _ | refine blk_drew ?_ | refine blk_alloc ?_ _)); refine blk_far ?_ NB299_304.out _; (with_reducible repeat (first | refine blk_drewN ?_ _ | refine blk_drew ?_ | refine blk_alloc ?_ _)); refine blk_far ?_ NB299_304.out _; (with_reducible repeat (first | refine blk_drewN ?_ _ | refine blk_drew ?_ | refine blk_alloc ?_ _)); exact BK299.out) hb); replace BK304 := Aside0.mk (blk_below (g := gb304) (o := .cells #[.int .i64 t300, .int .i64 t301, .string t302, .bool t303] 27 (0, 0)) (by (with_reducible repeat (first | refine blk_drewN ?_ _ | refine blk_drew ?_ | refine blk_alloc ?_ _)); refine blk_put (cs := #[.int .i64 t300, .int .i64 t301, .string t302, .bool false]) ?_ 3 _ rfl; (with_reducible repeat (first | refine blk_drewN ?_ _ | refine blk_drew ?_ | refine blk_alloc ?_ _)); refine blk_put (cs := #[.int .i64 t300, .int .i64 t301, .string (⟨#[]⟩ : ByteArray), .bool false]) ?_ 2 _ rfl; (with_reducible repeat (first | refine blk_drewN ?_ _ | refine blk_drew ?_ | refine blk_alloc ?_ _)); refine blk_put (cs := #[.int .i64 t300, .int .i64 0, .string (⟨#[]⟩ : ByteArray), .bool false]) ?_ 1 _ rfl; (with_reducible repeat (first | refine blk_drewN ?_ _ | refine blk_drew ?_ | refine blk_alloc ?_ _)); refine blk_put (cs := #[.int .i64 0, .int .i64 0, .string (⟨#[]⟩ : ByteArray), .bool false]) ?_ 0 _ rfl; (with_reducible repeat (first | refine blk_drewN ?_ _ | refine blk_drew ?_ | refine blk_alloc ?_ _)); exact BK304.out) hb); replace HB := bsA HB hb; (try clear hb); (try clear hb2); (try clear hk); (try clear hi); have hcz20_0 : w19.cell? ⟨gb304, 0, none⟩ = some (.int .i64 t300) := (blk_cell BK304.out 0).trans rfl; have hcz20_1 : w19.cell? ⟨gb304, 1, none⟩ = some (.int .i64 t301) := (blk_cell BK304.out 1).trans rfl; have hcz20_2 : w19.cell? ⟨gb304, 2, none⟩ = some (.string t302) := (blk_cell BK304.out 2).trans rfl; have hcz20_3 : w19.cell? ⟨gb304, 3, none⟩ = some (.bool t303) := (blk_cell BK304.out 3).trans rfl; have hfz20_0 := blk_frozen BK304.out 0; have hfz20_1 := blk_frozen BK304.out 1; have hfz20_2 := blk_frozen BK304.out 2; have hfz20_3 := blk_frozen BK304.out 3) | ((with_reducible refine gate_callee (f := 11) rfl ?_); refine goesT (some 31) Tryz.func11 #[.agg #[.int .i64 t305, .int .i64 t306, .string t307, .bool t308]] ?_; (with_reducible refine (refrainref1_Show.calls kj1 t305 t306 t307 t308 t309 t310 _ A12.out).mono ?_); rintro e w21 ⟨rfl, hb⟩; refine ⟨_, rfl, ?_⟩; replace BK299 := Aside0.mk (blk_below (g := gb299) (o := .cells #[.int .i64 0, .int .i64 0, .string (⟨#[]⟩ : ByteArray), .bool false] 27 (0, 0)) (by (with_reducible repeat (first | refine blk_drewN ?_ _ | refine blk_drew ?_ | refine blk_alloc ?_ _)); refine blk_far ?_ NB299_304.out _; (with_reducible repeat (first | refine blk_drewN ?_ _ | refine blk_drew ?_ | refine blk_alloc ?_ _)); refine blk_far ?_ NB299_304.out _; (with_reducible repeat (first | refine blk_drewN ?_ _ | refine blk_drew ?_ | refine blk_alloc ?_ _)); refine blk_far ?_ NB299_304.out _; (with_reducible repeat (first | refine blk_drewN ?_ _ | refine blk_drew ?_ | refine blk_alloc ?_ _)); refine blk_far ?_ NB299_304.out _; (with_reducible repeat (first | refine blk_drewN ?_ _ | refine blk_drew ?_ | refine blk_alloc ?_ _)); exact BK299.out) hb); replace BK304 := Aside0.mk (blk_below (g := gb304) (o := .cells #[.int .i64 t305, .int .i64 t306, .string t307, .bool t308] 27 (0, 0)) (by (with_reducible repeat (first | refine blk_drewN ?_ _ | refine blk_drew ?_ | refine blk_alloc ?_ _)); refine blk_put (cs := #[.int .i64 t305, .int .i64 t306, .string t307, .bool t303]) ?_ 3 _ rfl; (with_reducible repeat (first | refine blk_drewN ?_ _ | refine blk_drew ?_ | refine blk_alloc ?_ _)); refine blk_put (cs := #[.int .i64 t305, .int .i64 t306, .string t302, .bool t303]) ?_ 2 _ rfl; (with_reducible repeat (first | refine blk_drewN ?_ _ | refine blk_drew ?_ | refine blk_alloc ?_ _)); refine blk_put (cs := #[.int .i64 t305, .int .i64 t301, .string t302, .bool t303]) ?_ 1 _ rfl; (with_reducible repeat (first | refine blk_drewN ?_ _ | refine blk_drew ?_ | refine blk_alloc ?_ _)); refine blk_put (cs := #[.int .i64 t300, .int .i64 t301, .string t302, .bool t303]) ?_ 0 _ rfl; (with_reducible repeat (first | refine blk_drewN ?_ _ | refine blk_drew ?_ | refine blk_alloc ?_ _)); exact BK304.out) hb); replace HB := bsA HB hb; (try clear hb); (try clear hb2); (try clear hk); (try clear hi); have hcz22_0 : w21.cell? ⟨gb304, 0, none⟩ = some (.int .i64 t305) := (blk_cell BK304.out 0).trans rfl; have hcz22_1 : w21.cell? ⟨gb304, 1, none⟩ = some (.int .i64 t306) := (blk_cell BK304.out 1).trans rfl; have hcz22_2 : w21.cell? ⟨gb304, 2, none⟩ = some (.string t307) := (blk_cell BK304.out 2).trans rfl; have hcz22_3 : w21.cell? ⟨gb304, 3, none⟩ = some (.bool t308) := (blk_cell BK304.out 3).trans rfl; have hfz22_0 := blk_frozen BK304.out 0; have hfz22_1 := blk_frozen BK304.out 1; have hfz22_2 := blk_frozen BK304.out 2; have hfz22_3 := blk_frozen BK304.out 3; have hcz23_0 : w21.cell? ⟨gb299, 0, none⟩ = some (.int .i64 0) := (blk_cell BK299.out 0).trans rfl; have hcz23_1 : w21.cell? ⟨gb299, 1, none⟩ = some (.int .i64 0) := (blk_cell BK299.out 1).trans rfl; have hcz23_2 : w21.cell? ⟨gb299, 2, none⟩ = some (.string (⟨#[]⟩ : ByteArray)) := (blk_cell BK299.out 2).trans rfl; have hcz23_3 : w21.cell? ⟨gb299, 3, none⟩ = some (.bool false) := (blk_cell BK299.out 3).trans rfl; have hfz23_0 := blk_frozen BK299.out 0; have hfz23_1 := blk_frozen BK299.out 1; have hfz23_2 := blk_frozen BK299.out 2; have hfz23_3 := blk_frozen BK299.out 3))
                refine bodyPost_ret (results_ct rfl _ _ gb299 27 #[.int .i64 t305, .int .i64 t306, .string t307, .bool t308] (0, 0) _ rfl (by (with_reducible repeat (first | refine blk_drewN ?_ _ | refine blk_drew ?_ | refine blk_alloc ?_ _)); refine blk_put (cs := #[.int .i64 t305, .int .i64 t306, .string t307, .bool false]) ?_ 3 _ rfl; (with_reducible repeat (first | refine blk_drewN ?_ _ | refine blk_drew ?_ | refine blk_alloc ?_ _)); refine blk_put (cs := #[.int .i64 t305, .int .i64 t306, .string (⟨#[]⟩ : ByteArray), .bool false]) ?_ 2 _ rfl; (with_reducible repeat (first | refine blk_drewN ?_ _ | refine blk_drew ?_ | refine blk_alloc ?_ _)); refine blk_put (cs := #[.int .i64 t305, .int .i64 0, .string (⟨#[]⟩ : ByteArray), .bool false]) ?_ 1 _ rfl; (with_reducible repeat (first | refine blk_drewN ?_ _ | refine blk_drew ?_ | refine blk_alloc ?_ _)); refine blk_put (cs := #[.int .i64 0, .int .i64 0, .string (⟨#[]⟩ : ByteArray), .bool false]) ?_ 0 _ rfl; (with_reducible repeat (first | refine blk_drewN ?_ _ | refine blk_drew ?_ | refine blk_alloc ?_ _)); exact BK299.out) Tryz.underlying27 rfl (by kernel_rfl)) rfl ?_
                exact ⟨by first | rfl | (simp [errW_none, errW_some] <;> rfl) | (simp [*, errW_none, errW_some] <;> rfl), hbT HB.out⟩
              · rw [if_neg c14] at H
                have c14b0 : (t309.toList == a0.toList) = false := beq_eq_false_iff_ne.mpr c14
                have c14b1 : (t309.toList != a0.toList) = true := bne_iff_ne.mpr c14
                simp only [Option.some.injEq, Prod.mk.injEq] at H
                obtain ⟨rfl, rfl, rfl, rfl, rfl⟩ := H
                go_wp2_with (first | ((with_reducible refine gate_callee (f := 30) rfl ?_); refine goesT (some 16) Tryz.func30 #[.string a0] ?_; (with_reducible refine (refrainref1_guessed.calls kj1 a0 t300 t301 t302 t303 _ A7.out).mono ?_); rintro e w24 ⟨rfl, hb⟩; refine ⟨_, rfl, ?_⟩; replace BK299 := bbA BK299 hb; replace HB := bsA HB hb; (try clear hb); (try clear hb2); (try clear hk); (try clear hi)) | ((with_reducible refine gate_dst (N := 4) rfl ?_); refine box_event ?hg (N := 4) ?hd (cs := #[.int .i64 0, .int .i64 0, .string (⟨#[]⟩ : ByteArray), .bool false]) (t := 27) ?hr ?_; (case hd => rfl); (case hg => rfl); (case hr => first | (go_simp; done) | (go_simp; rfl)); intro gb304 hg w25 hbox hb; have BK304 := Aside0.mk hbox; have GW304 := geA hg HB; have GE304 := geA hg HB; have NB299_304 := neA hg BK299; have NB304_299 := neB hg BK299; replace BK299 := bbA BK299 hb; replace HB := bsA HB hb; clear hb hbox hg; have hnb26 := NB304_299.out; have hnc26 := NB299_304.out; have hcz27_0 : w25.cell? ⟨gb304, 0, none⟩ = some (.int .i64 0) := (blk_cell BK304.out 0).trans rfl; have hcz27_1 : w25.cell? ⟨gb304, 1, none⟩ = some (.int .i64 0) := (blk_cell BK304.out 1).trans rfl; have hcz27_2 : w25.cell? ⟨gb304, 2, none⟩ = some (.string (⟨#[]⟩ : ByteArray)) := (blk_cell BK304.out 2).trans rfl; have hcz27_3 : w25.cell? ⟨gb304, 3, none⟩ = some (.bool false) := (blk_cell BK304.out 3).trans rfl; have hfz27_0 := blk_frozen BK304.out 0; have hfz27_1 := blk_frozen BK304.out 1; have hfz27_2 := blk_frozen BK304.out 2; have hfz27_3 := blk_frozen BK304.out 3; have p9 : 0 ≤ (0 : Int) := (by omega); have q9 : 0 < a0.size := (by have : (0 : Int) < (a0.size : Int) := of_decide_eq_true (by first | (with_reducible assumption) | assumption); omega); have hx9 : ∀ h : 0 < a0.size, ((a0[0]'h).toNat : Int) = bt a0 0 := bt_at a0 0; clear p9; have qi9 : (0 < (a0.size : Int)) = True := eq_true (of_decide_eq_true (by first | (with_reducible assumption) | assumption)); replace q9 := eq_true q9) | ((with_reducible refine gate_callee (f := 31) rfl ?_); refine goesT (some 22) Tryz.func31 #[.string a0] ?_; (with_reducible refine (refrainref1_unquoted.calls kj1 a0 t305 t306 t307 t308 _ A11.out).mono ?_); rintro e w28 ⟨rfl, hb⟩; refine ⟨_, rfl, ?_⟩; replace BK299 := Aside0.mk (blk_below (g := gb299) (o := .cells #[.int .i64 0, .int .i64 0, .string (⟨#[]⟩ : ByteArray), .bool false] 27 (0, 0)) (by (with_reducible repeat (first | refine blk_drewN ?_ _ | refine blk_drew ?_ | refine blk_alloc ?_ _)); refine blk_far ?_ NB299_304.out _; (with_reducible repeat (first | refine blk_drewN ?_ _ | refine blk_drew ?_ | refine blk_alloc ?_ _)); refine blk_far ?_ NB299_304.out _; (with_reducible repeat (first | refine blk_drewN ?_ _ | refine blk_drew ?_ | refine blk_alloc ?_ _)); refine blk_far ?_ NB299_304.out _; (with_reducible repeat (first | refine blk_drewN ?_ _ | refine blk_drew ?_ | refine blk_alloc ?_ _)); refine blk_far ?_ NB299_304.out _; (with_reducible repeat (first | refine blk_drewN ?_ _ | refine blk_drew ?_ | refine blk_alloc ?_ _)); exact BK299.out) hb); replace BK304 := Aside0.mk (blk_below (g := gb304) (o := .cells #[.int .i64 t300, .int .i64 t301, .string t302, .bool t303] 27 (0, 0)) (by (with_reducible repeat (first | refine blk_drewN ?_ _ | refine blk_drew ?_ | refine blk_alloc ?_ _)); refine blk_put (cs := #[.int .i64 t300, .int .i64 t301, .string t302, .bool false]) ?_ 3 _ rfl; (with_reducible repeat (first | refine blk_drewN ?_ _ | refine blk_drew ?_ | refine blk_alloc ?_ _)); refine blk_put (cs := #[.int .i64 t300, .int .i64 t301, .string (⟨#[]⟩ : ByteArray), .bool false]) ?_ 2 _ rfl; (with_reducible repeat (first | refine blk_drewN ?_ _ | refine blk_drew ?_ | refine blk_alloc ?_ _)); refine blk_put (cs := #[.int .i64 t300, .int .i64 0, .string (⟨#[]⟩ : ByteArray), .bool false]) ?_ 1 _ rfl; (with_reducible repeat (first | refine blk_drewN ?_ _ | refine blk_drew ?_ | refine blk_alloc ?_ _)); refine blk_put (cs := #[.int .i64 0, .int .i64 0, .string (⟨#[]⟩ : ByteArray), .bool false]) ?_ 0 _ rfl; (with_reducible repeat (first | refine blk_drewN ?_ _ | refine blk_drew ?_ | refine blk_alloc ?_ _)); exact BK304.out) hb); replace HB := bsA HB hb; (try clear hb); (try clear hb2); (try clear hk); (try clear hi); have hcz29_0 : w28.cell? ⟨gb304, 0, none⟩ = some (.int .i64 t300) := (blk_cell BK304.out 0).trans rfl; have hcz29_1 : w28.cell? ⟨gb304, 1, none⟩ = some (.int .i64 t301) := (blk_cell BK304.out 1).trans rfl; have hcz29_2 : w28.cell? ⟨gb304, 2, none⟩ = some (.string t302) := (blk_cell BK304.out 2).trans rfl; have hcz29_3 : w28.cell? ⟨gb304, 3, none⟩ = some (.bool t303) := (blk_cell BK304.out 3).trans rfl; have hfz29_0 := blk_frozen BK304.out 0; have hfz29_1 := blk_frozen BK304.out 1; have hfz29_2 := blk_frozen BK304.out 2; have hfz29_3 := blk_frozen BK304.out 3) | ((with_reducible refine gate_callee (f := 11) rfl ?_); refine goesT (some 31) Tryz.func11 #[.agg #[.int .i64 t305, .int .i64 t306, .string t307, .bool t308]] ?_; (with_reducible refine (refrainref1_Show.calls kj1 t305 t306 t307 t308 t309 t310 _ A12.out).mono ?_); rintro e w30 ⟨rfl, hb⟩; refine ⟨_, rfl, ?_⟩; replace BK299 := Aside0.mk (blk_below (g := gb299) (o := .cells #[.int .i64 0, .int .i64 0, .string (⟨#[]⟩ : ByteArray), .bool false] 27 (0, 0)) (by (with_reducible repeat (first | refine blk_drewN ?_ _ | refine blk_drew ?_ | refine blk_alloc ?_ _)); refine blk_far ?_ NB299_304.out _; (with_reducible repeat (first | refine blk_drewN ?_ _ | refine blk_drew ?_ | refine blk_alloc ?_ _)); refine blk_far ?_ NB299_304.out _; (with_reducible repeat (first | refine blk_drewN ?_ _ | refine blk_drew ?_ | refine blk_alloc ?_ _)); refine blk_far ?_ NB299_304.out _; (with_reducible repeat (first | refine blk_drewN ?_ _ | refine blk_drew ?_ | refine blk_alloc ?_ _)); refine blk_far ?_ NB299_304.out _; (with_reducible repeat (first | refine blk_drewN ?_ _ | refine blk_drew ?_ | refine blk_alloc ?_ _)); exact BK299.out) hb); replace BK304 := Aside0.mk (blk_below (g := gb304) (o := .cells #[.int .i64 t305, .int .i64 t306, .string t307, .bool t308] 27 (0, 0)) (by (with_reducible repeat (first | refine blk_drewN ?_ _ | refine blk_drew ?_ | refine blk_alloc ?_ _)); refine blk_put (cs := #[.int .i64 t305, .int .i64 t306, .string t307, .bool t303]) ?_ 3 _ rfl; (with_reducible repeat (first | refine blk_drewN ?_ _ | refine blk_drew ?_ | refine blk_alloc ?_ _)); refine blk_put (cs := #[.int .i64 t305, .int .i64 t306, .string t302, .bool t303]) ?_ 2 _ rfl; (with_reducible repeat (first | refine blk_drewN ?_ _ | refine blk_drew ?_ | refine blk_alloc ?_ _)); refine blk_put (cs := #[.int .i64 t305, .int .i64 t301, .string t302, .bool t303]) ?_ 1 _ rfl; (with_reducible repeat (first | refine blk_drewN ?_ _ | refine blk_drew ?_ | refine blk_alloc ?_ _)); refine blk_put (cs := #[.int .i64 t300, .int .i64 t301, .string t302, .bool t303]) ?_ 0 _ rfl; (with_reducible repeat (first | refine blk_drewN ?_ _ | refine blk_drew ?_ | refine blk_alloc ?_ _)); exact BK304.out) hb); replace HB := bsA HB hb; (try clear hb); (try clear hb2); (try clear hk); (try clear hi); have hcz31_0 : w30.cell? ⟨gb299, 0, none⟩ = some (.int .i64 0) := (blk_cell BK299.out 0).trans rfl; have hcz31_1 : w30.cell? ⟨gb299, 1, none⟩ = some (.int .i64 0) := (blk_cell BK299.out 1).trans rfl; have hcz31_2 : w30.cell? ⟨gb299, 2, none⟩ = some (.string (⟨#[]⟩ : ByteArray)) := (blk_cell BK299.out 2).trans rfl; have hcz31_3 : w30.cell? ⟨gb299, 3, none⟩ = some (.bool false) := (blk_cell BK299.out 3).trans rfl; have hfz31_0 := blk_frozen BK299.out 0; have hfz31_1 := blk_frozen BK299.out 1; have hfz31_2 := blk_frozen BK299.out 2; have hfz31_3 := blk_frozen BK299.out 3))
                refine bodyPost_ret (results_ct rfl _ _ gb299 27 #[.int .i64 0, .int .i64 0, .string (⟨#[]⟩ : ByteArray), .bool false] (0, 0) _ rfl (by (with_reducible repeat (first | refine blk_drewN ?_ _ | refine blk_drew ?_ | refine blk_alloc ?_ _)); refine blk_put (cs := #[.int .i64 0, .int .i64 0, .string (⟨#[]⟩ : ByteArray), .bool false]) ?_ 3 _ rfl; (with_reducible repeat (first | refine blk_drewN ?_ _ | refine blk_drew ?_ | refine blk_alloc ?_ _)); refine blk_put (cs := #[.int .i64 0, .int .i64 0, .string (⟨#[]⟩ : ByteArray), .bool false]) ?_ 2 _ rfl; (with_reducible repeat (first | refine blk_drewN ?_ _ | refine blk_drew ?_ | refine blk_alloc ?_ _)); refine blk_put (cs := #[.int .i64 0, .int .i64 0, .string (⟨#[]⟩ : ByteArray), .bool false]) ?_ 1 _ rfl; (with_reducible repeat (first | refine blk_drewN ?_ _ | refine blk_drew ?_ | refine blk_alloc ?_ _)); refine blk_put (cs := #[.int .i64 0, .int .i64 0, .string (⟨#[]⟩ : ByteArray), .bool false]) ?_ 0 _ rfl; (with_reducible repeat (first | refine blk_drewN ?_ _ | refine blk_drew ?_ | refine blk_alloc ?_ _)); exact BK299.out) Tryz.underlying27 rfl (by kernel_rfl)) rfl ?_
                exact ⟨by first | rfl | (simp [errW_none, errW_some] <;> rfl) | (simp [*, errW_none, errW_some] <;> rfl), hbT HB.out⟩
            · rw [if_neg c13] at H
              have c13b0 : (t310 == 0) = false := beq_eq_false_iff_ne.mpr c13
              have c13b1 : (t310 != 0) = true := bne_iff_ne.mpr c13
              simp only [Option.some.injEq, Prod.mk.injEq] at H
              obtain ⟨rfl, rfl, rfl, rfl, rfl⟩ := H
              go_wp2_with (first | ((with_reducible refine gate_callee (f := 30) rfl ?_); refine goesT (some 16) Tryz.func30 #[.string a0] ?_; (with_reducible refine (refrainref1_guessed.calls kj1 a0 t300 t301 t302 t303 _ A7.out).mono ?_); rintro e w32 ⟨rfl, hb⟩; refine ⟨_, rfl, ?_⟩; replace BK299 := bbA BK299 hb; replace HB := bsA HB hb; (try clear hb); (try clear hb2); (try clear hk); (try clear hi)) | ((with_reducible refine gate_dst (N := 4) rfl ?_); refine box_event ?hg (N := 4) ?hd (cs := #[.int .i64 0, .int .i64 0, .string (⟨#[]⟩ : ByteArray), .bool false]) (t := 27) ?hr ?_; (case hd => rfl); (case hg => rfl); (case hr => first | (go_simp; done) | (go_simp; rfl)); intro gb304 hg w33 hbox hb; have BK304 := Aside0.mk hbox; have GW304 := geA hg HB; have GE304 := geA hg HB; have NB299_304 := neA hg BK299; have NB304_299 := neB hg BK299; replace BK299 := bbA BK299 hb; replace HB := bsA HB hb; clear hb hbox hg; have hnb34 := NB304_299.out; have hnc34 := NB299_304.out; have hcz35_0 : w33.cell? ⟨gb304, 0, none⟩ = some (.int .i64 0) := (blk_cell BK304.out 0).trans rfl; have hcz35_1 : w33.cell? ⟨gb304, 1, none⟩ = some (.int .i64 0) := (blk_cell BK304.out 1).trans rfl; have hcz35_2 : w33.cell? ⟨gb304, 2, none⟩ = some (.string (⟨#[]⟩ : ByteArray)) := (blk_cell BK304.out 2).trans rfl; have hcz35_3 : w33.cell? ⟨gb304, 3, none⟩ = some (.bool false) := (blk_cell BK304.out 3).trans rfl; have hfz35_0 := blk_frozen BK304.out 0; have hfz35_1 := blk_frozen BK304.out 1; have hfz35_2 := blk_frozen BK304.out 2; have hfz35_3 := blk_frozen BK304.out 3; have p9 : 0 ≤ (0 : Int) := (by omega); have q9 : 0 < a0.size := (by have : (0 : Int) < (a0.size : Int) := of_decide_eq_true (by first | (with_reducible assumption) | assumption); omega); have hx9 : ∀ h : 0 < a0.size, ((a0[0]'h).toNat : Int) = bt a0 0 := bt_at a0 0; clear p9; have qi9 : (0 < (a0.size : Int)) = True := eq_true (of_decide_eq_true (by first | (with_reducible assumption) | assumption)); replace q9 := eq_true q9) | ((with_reducible refine gate_callee (f := 31) rfl ?_); refine goesT (some 22) Tryz.func31 #[.string a0] ?_; (with_reducible refine (refrainref1_unquoted.calls kj1 a0 t305 t306 t307 t308 _ A11.out).mono ?_); rintro e w36 ⟨rfl, hb⟩; refine ⟨_, rfl, ?_⟩; replace BK299 := Aside0.mk (blk_below (g := gb299) (o := .cells #[.int .i64 0, .int .i64 0, .string (⟨#[]⟩ : ByteArray), .bool false] 27 (0, 0)) (by (with_reducible repeat (first | refine blk_drewN ?_ _ | refine blk_drew ?_ | refine blk_alloc ?_ _)); refine blk_far ?_ NB299_304.out _; (with_reducible repeat (first | refine blk_drewN ?_ _ | refine blk_drew ?_ | refine blk_alloc ?_ _)); refine blk_far ?_ NB299_304.out _; (with_reducible repeat (first | refine blk_drewN ?_ _ | refine blk_drew ?_ | refine blk_alloc ?_ _)); refine blk_far ?_ NB299_304.out _; (with_reducible repeat (first | refine blk_drewN ?_ _ | refine blk_drew ?_ | refine blk_alloc ?_ _)); refine blk_far ?_ NB299_304.out _; (with_reducible repeat (first | refine blk_drewN ?_ _ | refine blk_drew ?_ | refine blk_alloc ?_ _)); exact BK299.out) hb); replace BK304 := Aside0.mk (blk_below (g := gb304) (o := .cells #[.int .i64 t300, .int .i64 t301, .string t302, .bool t303] 27 (0, 0)) (by (with_reducible repeat (first | refine blk_drewN ?_ _ | refine blk_drew ?_ | refine blk_alloc ?_ _)); refine blk_put (cs := #[.int .i64 t300, .int .i64 t301, .string t302, .bool false]) ?_ 3 _ rfl; (with_reducible repeat (first | refine blk_drewN ?_ _ | refine blk_drew ?_ | refine blk_alloc ?_ _)); refine blk_put (cs := #[.int .i64 t300, .int .i64 t301, .string (⟨#[]⟩ : ByteArray), .bool false]) ?_ 2 _ rfl; (with_reducible repeat (first | refine blk_drewN ?_ _ | refine blk_drew ?_ | refine blk_alloc ?_ _)); refine blk_put (cs := #[.int .i64 t300, .int .i64 0, .string (⟨#[]⟩ : ByteArray), .bool false]) ?_ 1 _ rfl; (with_reducible repeat (first | refine blk_drewN ?_ _ | refine blk_drew ?_ | refine blk_alloc ?_ _)); refine blk_put (cs := #[.int .i64 0, .int .i64 0, .string (⟨#[]⟩ : ByteArray), .bool false]) ?_ 0 _ rfl; (with_reducible repeat (first | refine blk_drewN ?_ _ | refine blk_drew ?_ | refine blk_alloc ?_ _)); exact BK304.out) hb); replace HB := bsA HB hb; (try clear hb); (try clear hb2); (try clear hk); (try clear hi); have hcz37_0 : w36.cell? ⟨gb304, 0, none⟩ = some (.int .i64 t300) := (blk_cell BK304.out 0).trans rfl; have hcz37_1 : w36.cell? ⟨gb304, 1, none⟩ = some (.int .i64 t301) := (blk_cell BK304.out 1).trans rfl; have hcz37_2 : w36.cell? ⟨gb304, 2, none⟩ = some (.string t302) := (blk_cell BK304.out 2).trans rfl; have hcz37_3 : w36.cell? ⟨gb304, 3, none⟩ = some (.bool t303) := (blk_cell BK304.out 3).trans rfl; have hfz37_0 := blk_frozen BK304.out 0; have hfz37_1 := blk_frozen BK304.out 1; have hfz37_2 := blk_frozen BK304.out 2; have hfz37_3 := blk_frozen BK304.out 3) | ((with_reducible refine gate_callee (f := 11) rfl ?_); refine goesT (some 31) Tryz.func11 #[.agg #[.int .i64 t305, .int .i64 t306, .string t307, .bool t308]] ?_; (with_reducible refine (refrainref1_Show.calls kj1 t305 t306 t307 t308 t309 t310 _ A12.out).mono ?_); rintro e w38 ⟨rfl, hb⟩; refine ⟨_, rfl, ?_⟩; replace BK299 := Aside0.mk (blk_below (g := gb299) (o := .cells #[.int .i64 0, .int .i64 0, .string (⟨#[]⟩ : ByteArray), .bool false] 27 (0, 0)) (by (with_reducible repeat (first | refine blk_drewN ?_ _ | refine blk_drew ?_ | refine blk_alloc ?_ _)); refine blk_far ?_ NB299_304.out _; (with_reducible repeat (first | refine blk_drewN ?_ _ | refine blk_drew ?_ | refine blk_alloc ?_ _)); refine blk_far ?_ NB299_304.out _; (with_reducible repeat (first | refine blk_drewN ?_ _ | refine blk_drew ?_ | refine blk_alloc ?_ _)); refine blk_far ?_ NB299_304.out _; (with_reducible repeat (first | refine blk_drewN ?_ _ | refine blk_drew ?_ | refine blk_alloc ?_ _)); refine blk_far ?_ NB299_304.out _; (with_reducible repeat (first | refine blk_drewN ?_ _ | refine blk_drew ?_ | refine blk_alloc ?_ _)); exact BK299.out) hb); replace BK304 := Aside0.mk (blk_below (g := gb304) (o := .cells #[.int .i64 t305, .int .i64 t306, .string t307, .bool t308] 27 (0, 0)) (by (with_reducible repeat (first | refine blk_drewN ?_ _ | refine blk_drew ?_ | refine blk_alloc ?_ _)); refine blk_put (cs := #[.int .i64 t305, .int .i64 t306, .string t307, .bool t303]) ?_ 3 _ rfl; (with_reducible repeat (first | refine blk_drewN ?_ _ | refine blk_drew ?_ | refine blk_alloc ?_ _)); refine blk_put (cs := #[.int .i64 t305, .int .i64 t306, .string t302, .bool t303]) ?_ 2 _ rfl; (with_reducible repeat (first | refine blk_drewN ?_ _ | refine blk_drew ?_ | refine blk_alloc ?_ _)); refine blk_put (cs := #[.int .i64 t305, .int .i64 t301, .string t302, .bool t303]) ?_ 1 _ rfl; (with_reducible repeat (first | refine blk_drewN ?_ _ | refine blk_drew ?_ | refine blk_alloc ?_ _)); refine blk_put (cs := #[.int .i64 t300, .int .i64 t301, .string t302, .bool t303]) ?_ 0 _ rfl; (with_reducible repeat (first | refine blk_drewN ?_ _ | refine blk_drew ?_ | refine blk_alloc ?_ _)); exact BK304.out) hb); replace HB := bsA HB hb; (try clear hb); (try clear hb2); (try clear hk); (try clear hi); have hcz39_0 : w38.cell? ⟨gb299, 0, none⟩ = some (.int .i64 0) := (blk_cell BK299.out 0).trans rfl; have hcz39_1 : w38.cell? ⟨gb299, 1, none⟩ = some (.int .i64 0) := (blk_cell BK299.out 1).trans rfl; have hcz39_2 : w38.cell? ⟨gb299, 2, none⟩ = some (.string (⟨#[]⟩ : ByteArray)) := (blk_cell BK299.out 2).trans rfl; have hcz39_3 : w38.cell? ⟨gb299, 3, none⟩ = some (.bool false) := (blk_cell BK299.out 3).trans rfl; have hfz39_0 := blk_frozen BK299.out 0; have hfz39_1 := blk_frozen BK299.out 1; have hfz39_2 := blk_frozen BK299.out 2; have hfz39_3 := blk_frozen BK299.out 3))
              refine bodyPost_ret (results_ct rfl _ _ gb299 27 #[.int .i64 0, .int .i64 0, .string (⟨#[]⟩ : ByteArray), .bool false] (0, 0) _ rfl (by (with_reducible repeat (first | refine blk_drewN ?_ _ | refine blk_drew ?_ | refine blk_alloc ?_ _)); refine blk_put (cs := #[.int .i64 0, .int .i64 0, .string (⟨#[]⟩ : ByteArray), .bool false]) ?_ 3 _ rfl; (with_reducible repeat (first | refine blk_drewN ?_ _ | refine blk_drew ?_ | refine blk_alloc ?_ _)); refine blk_put (cs := #[.int .i64 0, .int .i64 0, .string (⟨#[]⟩ : ByteArray), .bool false]) ?_ 2 _ rfl; (with_reducible repeat (first | refine blk_drewN ?_ _ | refine blk_drew ?_ | refine blk_alloc ?_ _)); refine blk_put (cs := #[.int .i64 0, .int .i64 0, .string (⟨#[]⟩ : ByteArray), .bool false]) ?_ 1 _ rfl; (with_reducible repeat (first | refine blk_drewN ?_ _ | refine blk_drew ?_ | refine blk_alloc ?_ _)); refine blk_put (cs := #[.int .i64 0, .int .i64 0, .string (⟨#[]⟩ : ByteArray), .bool false]) ?_ 0 _ rfl; (with_reducible repeat (first | refine blk_drewN ?_ _ | refine blk_drew ?_ | refine blk_alloc ?_ _)); exact BK299.out) Tryz.underlying27 rfl (by kernel_rfl)) rfl ?_
              exact ⟨by first | rfl | (simp [errW_none, errW_some] <;> rfl) | (simp [*, errW_none, errW_some] <;> rfl), hbT HB.out⟩
          · rw [if_neg c10] at H
            have c10b0 : ((bt a0 0) == 34) = false := beq_eq_false_iff_ne.mpr c10
            have c10b1 : ((bt a0 0) != 34) = true := bne_iff_ne.mpr c10
            by_cases c40 : (bt a0 0) = 84
            · rw [if_pos c40] at H
              have c40b0 : ((bt a0 0) == 84) = true := beq_iff_eq.mpr c40
              have c40b1 : ((bt a0 0) != 84) = false := bne_eq_false_iff_eq.mpr c40
              clear c40
              replace H := Option.bind_eq_some_iff.mp H
              obtain ⟨⟨t311, t312⟩, A410, H⟩ := H
              replace H : (if t312 = 0 then (if t311.toList = a0.toList then (some (3, 0, (⟨#[]⟩ : ByteArray), true, 0)) else (some (0, 0, (⟨#[]⟩ : ByteArray), false, 12))) else (some (0, 0, (⟨#[]⟩ : ByteArray), false, 12))) = some (r1, r2, r3, r4, r5) := H
              have A41 := Aside0.mk A410
              clear A410
              by_cases c42 : t312 = 0
              · rw [if_pos c42] at H
                have c42b0 : (t312 == 0) = true := beq_iff_eq.mpr c42
                have c42b1 : (t312 != 0) = false := bne_eq_false_iff_eq.mpr c42
                clear c42
                by_cases c43 : t311.toList = a0.toList
                · rw [if_pos c43] at H
                  have c43b0 : (t311.toList == a0.toList) = true := beq_iff_eq.mpr c43
                  have c43b1 : (t311.toList != a0.toList) = false := bne_eq_false_iff_eq.mpr c43
                  clear c43
                  simp only [Option.some.injEq, Prod.mk.injEq] at H
                  obtain ⟨rfl, rfl, rfl, rfl, rfl⟩ := H
                  go_wp2_with (first | ((with_reducible refine gate_callee (f := 30) rfl ?_); refine goesT (some 16) Tryz.func30 #[.string a0] ?_; (with_reducible refine (refrainref1_guessed.calls kj1 a0 t300 t301 t302 t303 _ A7.out).mono ?_); rintro e w44 ⟨rfl, hb⟩; refine ⟨_, rfl, ?_⟩; replace BK299 := bbA BK299 hb; replace HB := bsA HB hb; (try clear hb); (try clear hb2); (try clear hk); (try clear hi)) | ((with_reducible refine gate_dst (N := 4) rfl ?_); refine box_event ?hg (N := 4) ?hd (cs := #[.int .i64 0, .int .i64 0, .string (⟨#[]⟩ : ByteArray), .bool false]) (t := 27) ?hr ?_; (case hd => rfl); (case hg => rfl); (case hr => first | (go_simp; done) | (go_simp; rfl)); intro gb304 hg w45 hbox hb; have BK304 := Aside0.mk hbox; have GW304 := geA hg HB; have GE304 := geA hg HB; have NB299_304 := neA hg BK299; have NB304_299 := neB hg BK299; replace BK299 := bbA BK299 hb; replace HB := bsA HB hb; clear hb hbox hg; have hnb46 := NB304_299.out; have hnc46 := NB299_304.out; have hcz47_0 : w45.cell? ⟨gb304, 0, none⟩ = some (.int .i64 0) := (blk_cell BK304.out 0).trans rfl; have hcz47_1 : w45.cell? ⟨gb304, 1, none⟩ = some (.int .i64 0) := (blk_cell BK304.out 1).trans rfl; have hcz47_2 : w45.cell? ⟨gb304, 2, none⟩ = some (.string (⟨#[]⟩ : ByteArray)) := (blk_cell BK304.out 2).trans rfl; have hcz47_3 : w45.cell? ⟨gb304, 3, none⟩ = some (.bool false) := (blk_cell BK304.out 3).trans rfl; have hfz47_0 := blk_frozen BK304.out 0; have hfz47_1 := blk_frozen BK304.out 1; have hfz47_2 := blk_frozen BK304.out 2; have hfz47_3 := blk_frozen BK304.out 3; have p9 : 0 ≤ (0 : Int) := (by omega); have q9 : 0 < a0.size := (by have : (0 : Int) < (a0.size : Int) := of_decide_eq_true (by first | (with_reducible assumption) | assumption); omega); have hx9 : ∀ h : 0 < a0.size, ((a0[0]'h).toNat : Int) = bt a0 0 := bt_at a0 0; clear p9; have qi9 : (0 < (a0.size : Int)) = True := eq_true (of_decide_eq_true (by first | (with_reducible assumption) | assumption)); replace q9 := eq_true q9) | ((with_reducible refine gate_callee (f := 11) rfl ?_); refine goesT (some 31) Tryz.func11 #[.agg #[.int .i64 3, .int .i64 0, .string (⟨#[]⟩ : ByteArray), .bool true]] ?_; (with_reducible refine (refrainref1_Show.calls kj1 3 0 (⟨#[]⟩ : ByteArray) true t311 t312 _ A41.out).mono ?_); rintro e w48 ⟨rfl, hb⟩; refine ⟨_, rfl, ?_⟩; replace BK299 := Aside0.mk (blk_below (g := gb299) (o := .cells #[.int .i64 0, .int .i64 0, .string (⟨#[]⟩ : ByteArray), .bool false] 27 (0, 0)) (by (with_reducible repeat (first | refine blk_drewN ?_ _ | refine blk_drew ?_ | refine blk_alloc ?_ _)); refine blk_far ?_ NB299_304.out _; (with_reducible repeat (first | refine blk_drewN ?_ _ | refine blk_drew ?_ | refine blk_alloc ?_ _)); refine blk_far ?_ NB299_304.out _; (with_reducible repeat (first | refine blk_drewN ?_ _ | refine blk_drew ?_ | refine blk_alloc ?_ _)); refine blk_far ?_ NB299_304.out _; (with_reducible repeat (first | refine blk_drewN ?_ _ | refine blk_drew ?_ | refine blk_alloc ?_ _)); refine blk_far ?_ NB299_304.out _; (with_reducible repeat (first | refine blk_drewN ?_ _ | refine blk_drew ?_ | refine blk_alloc ?_ _)); refine blk_far ?_ NB299_304.out _; (with_reducible repeat (first | refine blk_drewN ?_ _ | refine blk_drew ?_ | refine blk_alloc ?_ _)); refine blk_far ?_ NB299_304.out _; (with_reducible repeat (first | refine blk_drewN ?_ _ | refine blk_drew ?_ | refine blk_alloc ?_ _)); refine blk_far ?_ NB299_304.out _; (with_reducible repeat (first | refine blk_drewN ?_ _ | refine blk_drew ?_ | refine blk_alloc ?_ _)); refine blk_far ?_ NB299_304.out _; (with_reducible repeat (first | refine blk_drewN ?_ _ | refine blk_drew ?_ | refine blk_alloc ?_ _)); exact BK299.out) hb); replace BK304 := Aside0.mk (blk_below (g := gb304) (o := .cells #[.int .i64 3, .int .i64 0, .string (⟨#[]⟩ : ByteArray), .bool true] 27 (0, 0)) (by (with_reducible repeat (first | refine blk_drewN ?_ _ | refine blk_drew ?_ | refine blk_alloc ?_ _)); refine blk_put (cs := #[.int .i64 3, .int .i64 0, .string (⟨#[]⟩ : ByteArray), .bool t303]) ?_ 3 _ rfl; (with_reducible repeat (first | refine blk_drewN ?_ _ | refine blk_drew ?_ | refine blk_alloc ?_ _)); refine blk_put (cs := #[.int .i64 3, .int .i64 0, .string t302, .bool t303]) ?_ 2 _ rfl; (with_reducible repeat (first | refine blk_drewN ?_ _ | refine blk_drew ?_ | refine blk_alloc ?_ _)); refine blk_put (cs := #[.int .i64 3, .int .i64 t301, .string t302, .bool t303]) ?_ 1 _ rfl; (with_reducible repeat (first | refine blk_drewN ?_ _ | refine blk_drew ?_ | refine blk_alloc ?_ _)); refine blk_put (cs := #[.int .i64 t300, .int .i64 t301, .string t302, .bool t303]) ?_ 0 _ rfl; (with_reducible repeat (first | refine blk_drewN ?_ _ | refine blk_drew ?_ | refine blk_alloc ?_ _)); refine blk_put (cs := #[.int .i64 t300, .int .i64 t301, .string t302, .bool false]) ?_ 3 _ rfl; (with_reducible repeat (first | refine blk_drewN ?_ _ | refine blk_drew ?_ | refine blk_alloc ?_ _)); refine blk_put (cs := #[.int .i64 t300, .int .i64 t301, .string (⟨#[]⟩ : ByteArray), .bool false]) ?_ 2 _ rfl; (with_reducible repeat (first | refine blk_drewN ?_ _ | refine blk_drew ?_ | refine blk_alloc ?_ _)); refine blk_put (cs := #[.int .i64 t300, .int .i64 0, .string (⟨#[]⟩ : ByteArray), .bool false]) ?_ 1 _ rfl; (with_reducible repeat (first | refine blk_drewN ?_ _ | refine blk_drew ?_ | refine blk_alloc ?_ _)); refine blk_put (cs := #[.int .i64 0, .int .i64 0, .string (⟨#[]⟩ : ByteArray), .bool false]) ?_ 0 _ rfl; (with_reducible repeat (first | refine blk_drewN ?_ _ | refine blk_drew ?_ | refine blk_alloc ?_ _)); exact BK304.out) hb); replace HB := bsA HB hb; (try clear hb); (try clear hb2); (try clear hk); (try clear hi); have hcz49_0 : w48.cell? ⟨gb304, 0, none⟩ = some (.int .i64 3) := (blk_cell BK304.out 0).trans rfl; have hcz49_1 : w48.cell? ⟨gb304, 1, none⟩ = some (.int .i64 0) := (blk_cell BK304.out 1).trans rfl; have hcz49_2 : w48.cell? ⟨gb304, 2, none⟩ = some (.string (⟨#[]⟩ : ByteArray)) := (blk_cell BK304.out 2).trans rfl; have hcz49_3 : w48.cell? ⟨gb304, 3, none⟩ = some (.bool true) := (blk_cell BK304.out 3).trans rfl; have hfz49_0 := blk_frozen BK304.out 0; have hfz49_1 := blk_frozen BK304.out 1; have hfz49_2 := blk_frozen BK304.out 2; have hfz49_3 := blk_frozen BK304.out 3; have hcz50_0 : w48.cell? ⟨gb299, 0, none⟩ = some (.int .i64 0) := (blk_cell BK299.out 0).trans rfl; have hcz50_1 : w48.cell? ⟨gb299, 1, none⟩ = some (.int .i64 0) := (blk_cell BK299.out 1).trans rfl; have hcz50_2 : w48.cell? ⟨gb299, 2, none⟩ = some (.string (⟨#[]⟩ : ByteArray)) := (blk_cell BK299.out 2).trans rfl; have hcz50_3 : w48.cell? ⟨gb299, 3, none⟩ = some (.bool false) := (blk_cell BK299.out 3).trans rfl; have hfz50_0 := blk_frozen BK299.out 0; have hfz50_1 := blk_frozen BK299.out 1; have hfz50_2 := blk_frozen BK299.out 2; have hfz50_3 := blk_frozen BK299.out 3))
                  refine bodyPost_ret (results_ct rfl _ _ gb299 27 #[.int .i64 3, .int .i64 0, .string (⟨#[]⟩ : ByteArray), .bool true] (0, 0) _ rfl (by (with_reducible repeat (first | refine blk_drewN ?_ _ | refine blk_drew ?_ | refine blk_alloc ?_ _)); refine blk_put (cs := #[.int .i64 3, .int .i64 0, .string (⟨#[]⟩ : ByteArray), .bool false]) ?_ 3 _ rfl; (with_reducible repeat (first | refine blk_drewN ?_ _ | refine blk_drew ?_ | refine blk_alloc ?_ _)); refine blk_put (cs := #[.int .i64 3, .int .i64 0, .string (⟨#[]⟩ : ByteArray), .bool false]) ?_ 2 _ rfl; (with_reducible repeat (first | refine blk_drewN ?_ _ | refine blk_drew ?_ | refine blk_alloc ?_ _)); refine blk_put (cs := #[.int .i64 3, .int .i64 0, .string (⟨#[]⟩ : ByteArray), .bool false]) ?_ 1 _ rfl; (with_reducible repeat (first | refine blk_drewN ?_ _ | refine blk_drew ?_ | refine blk_alloc ?_ _)); refine blk_put (cs := #[.int .i64 0, .int .i64 0, .string (⟨#[]⟩ : ByteArray), .bool false]) ?_ 0 _ rfl; (with_reducible repeat (first | refine blk_drewN ?_ _ | refine blk_drew ?_ | refine blk_alloc ?_ _)); exact BK299.out) Tryz.underlying27 rfl (by kernel_rfl)) rfl ?_
                  exact ⟨by first | rfl | (simp [errW_none, errW_some] <;> rfl) | (simp [*, errW_none, errW_some] <;> rfl), hbT HB.out⟩
                · rw [if_neg c43] at H
                  have c43b0 : (t311.toList == a0.toList) = false := beq_eq_false_iff_ne.mpr c43
                  have c43b1 : (t311.toList != a0.toList) = true := bne_iff_ne.mpr c43
                  simp only [Option.some.injEq, Prod.mk.injEq] at H
                  obtain ⟨rfl, rfl, rfl, rfl, rfl⟩ := H
                  go_wp2_with (first | ((with_reducible refine gate_callee (f := 30) rfl ?_); refine goesT (some 16) Tryz.func30 #[.string a0] ?_; (with_reducible refine (refrainref1_guessed.calls kj1 a0 t300 t301 t302 t303 _ A7.out).mono ?_); rintro e w51 ⟨rfl, hb⟩; refine ⟨_, rfl, ?_⟩; replace BK299 := bbA BK299 hb; replace HB := bsA HB hb; (try clear hb); (try clear hb2); (try clear hk); (try clear hi)) | ((with_reducible refine gate_dst (N := 4) rfl ?_); refine box_event ?hg (N := 4) ?hd (cs := #[.int .i64 0, .int .i64 0, .string (⟨#[]⟩ : ByteArray), .bool false]) (t := 27) ?hr ?_; (case hd => rfl); (case hg => rfl); (case hr => first | (go_simp; done) | (go_simp; rfl)); intro gb304 hg w52 hbox hb; have BK304 := Aside0.mk hbox; have GW304 := geA hg HB; have GE304 := geA hg HB; have NB299_304 := neA hg BK299; have NB304_299 := neB hg BK299; replace BK299 := bbA BK299 hb; replace HB := bsA HB hb; clear hb hbox hg; have hnb53 := NB304_299.out; have hnc53 := NB299_304.out; have hcz54_0 : w52.cell? ⟨gb304, 0, none⟩ = some (.int .i64 0) := (blk_cell BK304.out 0).trans rfl; have hcz54_1 : w52.cell? ⟨gb304, 1, none⟩ = some (.int .i64 0) := (blk_cell BK304.out 1).trans rfl; have hcz54_2 : w52.cell? ⟨gb304, 2, none⟩ = some (.string (⟨#[]⟩ : ByteArray)) := (blk_cell BK304.out 2).trans rfl; have hcz54_3 : w52.cell? ⟨gb304, 3, none⟩ = some (.bool false) := (blk_cell BK304.out 3).trans rfl; have hfz54_0 := blk_frozen BK304.out 0; have hfz54_1 := blk_frozen BK304.out 1; have hfz54_2 := blk_frozen BK304.out 2; have hfz54_3 := blk_frozen BK304.out 3; have p9 : 0 ≤ (0 : Int) := (by omega); have q9 : 0 < a0.size := (by have : (0 : Int) < (a0.size : Int) := of_decide_eq_true (by first | (with_reducible assumption) | assumption); omega); have hx9 : ∀ h : 0 < a0.size, ((a0[0]'h).toNat : Int) = bt a0 0 := bt_at a0 0; clear p9; have qi9 : (0 < (a0.size : Int)) = True := eq_true (of_decide_eq_true (by first | (with_reducible assumption) | assumption)); replace q9 := eq_true q9) | ((with_reducible refine gate_callee (f := 11) rfl ?_); refine goesT (some 31) Tryz.func11 #[.agg #[.int .i64 3, .int .i64 0, .string (⟨#[]⟩ : ByteArray), .bool true]] ?_; (with_reducible refine (refrainref1_Show.calls kj1 3 0 (⟨#[]⟩ : ByteArray) true t311 t312 _ A41.out).mono ?_); rintro e w55 ⟨rfl, hb⟩; refine ⟨_, rfl, ?_⟩; replace BK299 := Aside0.mk (blk_below (g := gb299) (o := .cells #[.int .i64 0, .int .i64 0, .string (⟨#[]⟩ : ByteArray), .bool false] 27 (0, 0)) (by (with_reducible repeat (first | refine blk_drewN ?_ _ | refine blk_drew ?_ | refine blk_alloc ?_ _)); refine blk_far ?_ NB299_304.out _; (with_reducible repeat (first | refine blk_drewN ?_ _ | refine blk_drew ?_ | refine blk_alloc ?_ _)); refine blk_far ?_ NB299_304.out _; (with_reducible repeat (first | refine blk_drewN ?_ _ | refine blk_drew ?_ | refine blk_alloc ?_ _)); refine blk_far ?_ NB299_304.out _; (with_reducible repeat (first | refine blk_drewN ?_ _ | refine blk_drew ?_ | refine blk_alloc ?_ _)); refine blk_far ?_ NB299_304.out _; (with_reducible repeat (first | refine blk_drewN ?_ _ | refine blk_drew ?_ | refine blk_alloc ?_ _)); refine blk_far ?_ NB299_304.out _; (with_reducible repeat (first | refine blk_drewN ?_ _ | refine blk_drew ?_ | refine blk_alloc ?_ _)); refine blk_far ?_ NB299_304.out _; (with_reducible repeat (first | refine blk_drewN ?_ _ | refine blk_drew ?_ | refine blk_alloc ?_ _)); refine blk_far ?_ NB299_304.out _; (with_reducible repeat (first | refine blk_drewN ?_ _ | refine blk_drew ?_ | refine blk_alloc ?_ _)); refine blk_far ?_ NB299_304.out _; (with_reducible repeat (first | refine blk_drewN ?_ _ | refine blk_drew ?_ | refine blk_alloc ?_ _)); exact BK299.out) hb); replace BK304 := Aside0.mk (blk_below (g := gb304) (o := .cells #[.int .i64 3, .int .i64 0, .string (⟨#[]⟩ : ByteArray), .bool true] 27 (0, 0)) (by (with_reducible repeat (first | refine blk_drewN ?_ _ | refine blk_drew ?_ | refine blk_alloc ?_ _)); refine blk_put (cs := #[.int .i64 3, .int .i64 0, .string (⟨#[]⟩ : ByteArray), .bool t303]) ?_ 3 _ rfl; (with_reducible repeat (first | refine blk_drewN ?_ _ | refine blk_drew ?_ | refine blk_alloc ?_ _)); refine blk_put (cs := #[.int .i64 3, .int .i64 0, .string t302, .bool t303]) ?_ 2 _ rfl; (with_reducible repeat (first | refine blk_drewN ?_ _ | refine blk_drew ?_ | refine blk_alloc ?_ _)); refine blk_put (cs := #[.int .i64 3, .int .i64 t301, .string t302, .bool t303]) ?_ 1 _ rfl; (with_reducible repeat (first | refine blk_drewN ?_ _ | refine blk_drew ?_ | refine blk_alloc ?_ _)); refine blk_put (cs := #[.int .i64 t300, .int .i64 t301, .string t302, .bool t303]) ?_ 0 _ rfl; (with_reducible repeat (first | refine blk_drewN ?_ _ | refine blk_drew ?_ | refine blk_alloc ?_ _)); refine blk_put (cs := #[.int .i64 t300, .int .i64 t301, .string t302, .bool false]) ?_ 3 _ rfl; (with_reducible repeat (first | refine blk_drewN ?_ _ | refine blk_drew ?_ | refine blk_alloc ?_ _)); refine blk_put (cs := #[.int .i64 t300, .int .i64 t301, .string (⟨#[]⟩ : ByteArray), .bool false]) ?_ 2 _ rfl; (with_reducible repeat (first | refine blk_drewN ?_ _ | refine blk_drew ?_ | refine blk_alloc ?_ _)); refine blk_put (cs := #[.int .i64 t300, .int .i64 0, .string (⟨#[]⟩ : ByteArray), .bool false]) ?_ 1 _ rfl; (with_reducible repeat (first | refine blk_drewN ?_ _ | refine blk_drew ?_ | refine blk_alloc ?_ _)); refine blk_put (cs := #[.int .i64 0, .int .i64 0, .string (⟨#[]⟩ : ByteArray), .bool false]) ?_ 0 _ rfl; (with_reducible repeat (first | refine blk_drewN ?_ _ | refine blk_drew ?_ | refine blk_alloc ?_ _)); exact BK304.out) hb); replace HB := bsA HB hb; (try clear hb); (try clear hb2); (try clear hk); (try clear hi); have hcz56_0 : w55.cell? ⟨gb299, 0, none⟩ = some (.int .i64 0) := (blk_cell BK299.out 0).trans rfl; have hcz56_1 : w55.cell? ⟨gb299, 1, none⟩ = some (.int .i64 0) := (blk_cell BK299.out 1).trans rfl; have hcz56_2 : w55.cell? ⟨gb299, 2, none⟩ = some (.string (⟨#[]⟩ : ByteArray)) := (blk_cell BK299.out 2).trans rfl; have hcz56_3 : w55.cell? ⟨gb299, 3, none⟩ = some (.bool false) := (blk_cell BK299.out 3).trans rfl; have hfz56_0 := blk_frozen BK299.out 0; have hfz56_1 := blk_frozen BK299.out 1; have hfz56_2 := blk_frozen BK299.out 2; have hfz56_3 := blk_frozen BK299.out 3))
                  refine bodyPost_ret (results_ct rfl _ _ gb299 27 #[.int .i64 0, .int .i64 0, .string (⟨#[]⟩ : ByteArray), .bool false] (0, 0) _ rfl (by (with_reducible repeat (first | refine blk_drewN ?_ _ | refine blk_drew ?_ | refine blk_alloc ?_ _)); refine blk_put (cs := #[.int .i64 0, .int .i64 0, .string (⟨#[]⟩ : ByteArray), .bool false]) ?_ 3 _ rfl; (with_reducible repeat (first | refine blk_drewN ?_ _ | refine blk_drew ?_ | refine blk_alloc ?_ _)); refine blk_put (cs := #[.int .i64 0, .int .i64 0, .string (⟨#[]⟩ : ByteArray), .bool false]) ?_ 2 _ rfl; (with_reducible repeat (first | refine blk_drewN ?_ _ | refine blk_drew ?_ | refine blk_alloc ?_ _)); refine blk_put (cs := #[.int .i64 0, .int .i64 0, .string (⟨#[]⟩ : ByteArray), .bool false]) ?_ 1 _ rfl; (with_reducible repeat (first | refine blk_drewN ?_ _ | refine blk_drew ?_ | refine blk_alloc ?_ _)); refine blk_put (cs := #[.int .i64 0, .int .i64 0, .string (⟨#[]⟩ : ByteArray), .bool false]) ?_ 0 _ rfl; (with_reducible repeat (first | refine blk_drewN ?_ _ | refine blk_drew ?_ | refine blk_alloc ?_ _)); exact BK299.out) Tryz.underlying27 rfl (by kernel_rfl)) rfl ?_
                  exact ⟨by first | rfl | (simp [errW_none, errW_some] <;> rfl) | (simp [*, errW_none, errW_some] <;> rfl), hbT HB.out⟩
              · rw [if_neg c42] at H
                have c42b0 : (t312 == 0) = false := beq_eq_false_iff_ne.mpr c42
                have c42b1 : (t312 != 0) = true := bne_iff_ne.mpr c42
                simp only [Option.some.injEq, Prod.mk.injEq] at H
                obtain ⟨rfl, rfl, rfl, rfl, rfl⟩ := H
                go_wp2_with (first | ((with_reducible refine gate_callee (f := 30) rfl ?_); refine goesT (some 16) Tryz.func30 #[.string a0] ?_; (with_reducible refine (refrainref1_guessed.calls kj1 a0 t300 t301 t302 t303 _ A7.out).mono ?_); rintro e w57 ⟨rfl, hb⟩; refine ⟨_, rfl, ?_⟩; replace BK299 := bbA BK299 hb; replace HB := bsA HB hb; (try clear hb); (try clear hb2); (try clear hk); (try clear hi)) | ((with_reducible refine gate_dst (N := 4) rfl ?_); refine box_event ?hg (N := 4) ?hd (cs := #[.int .i64 0, .int .i64 0, .string (⟨#[]⟩ : ByteArray), .bool false]) (t := 27) ?hr ?_; (case hd => rfl); (case hg => rfl); (case hr => first | (go_simp; done) | (go_simp; rfl)); intro gb304 hg w58 hbox hb; have BK304 := Aside0.mk hbox; have GW304 := geA hg HB; have GE304 := geA hg HB; have NB299_304 := neA hg BK299; have NB304_299 := neB hg BK299; replace BK299 := bbA BK299 hb; replace HB := bsA HB hb; clear hb hbox hg; have hnb59 := NB304_299.out; have hnc59 := NB299_304.out; have hcz60_0 : w58.cell? ⟨gb304, 0, none⟩ = some (.int .i64 0) := (blk_cell BK304.out 0).trans rfl; have hcz60_1 : w58.cell? ⟨gb304, 1, none⟩ = some (.int .i64 0) := (blk_cell BK304.out 1).trans rfl; have hcz60_2 : w58.cell? ⟨gb304, 2, none⟩ = some (.string (⟨#[]⟩ : ByteArray)) := (blk_cell BK304.out 2).trans rfl; have hcz60_3 : w58.cell? ⟨gb304, 3, none⟩ = some (.bool false) := (blk_cell BK304.out 3).trans rfl; have hfz60_0 := blk_frozen BK304.out 0; have hfz60_1 := blk_frozen BK304.out 1; have hfz60_2 := blk_frozen BK304.out 2; have hfz60_3 := blk_frozen BK304.out 3; have p9 : 0 ≤ (0 : Int) := (by omega); have q9 : 0 < a0.size := (by have : (0 : Int) < (a0.size : Int) := of_decide_eq_true (by first | (with_reducible assumption) | assumption); omega); have hx9 : ∀ h : 0 < a0.size, ((a0[0]'h).toNat : Int) = bt a0 0 := bt_at a0 0; clear p9; have qi9 : (0 < (a0.size : Int)) = True := eq_true (of_decide_eq_true (by first | (with_reducible assumption) | assumption)); replace q9 := eq_true q9) | ((with_reducible refine gate_callee (f := 11) rfl ?_); refine goesT (some 31) Tryz.func11 #[.agg #[.int .i64 3, .int .i64 0, .string (⟨#[]⟩ : ByteArray), .bool true]] ?_; (with_reducible refine (refrainref1_Show.calls kj1 3 0 (⟨#[]⟩ : ByteArray) true t311 t312 _ A41.out).mono ?_); rintro e w61 ⟨rfl, hb⟩; refine ⟨_, rfl, ?_⟩; replace BK299 := Aside0.mk (blk_below (g := gb299) (o := .cells #[.int .i64 0, .int .i64 0, .string (⟨#[]⟩ : ByteArray), .bool false] 27 (0, 0)) (by (with_reducible repeat (first | refine blk_drewN ?_ _ | refine blk_drew ?_ | refine blk_alloc ?_ _)); refine blk_far ?_ NB299_304.out _; (with_reducible repeat (first | refine blk_drewN ?_ _ | refine blk_drew ?_ | refine blk_alloc ?_ _)); refine blk_far ?_ NB299_304.out _; (with_reducible repeat (first | refine blk_drewN ?_ _ | refine blk_drew ?_ | refine blk_alloc ?_ _)); refine blk_far ?_ NB299_304.out _; (with_reducible repeat (first | refine blk_drewN ?_ _ | refine blk_drew ?_ | refine blk_alloc ?_ _)); refine blk_far ?_ NB299_304.out _; (with_reducible repeat (first | refine blk_drewN ?_ _ | refine blk_drew ?_ | refine blk_alloc ?_ _)); refine blk_far ?_ NB299_304.out _; (with_reducible repeat (first | refine blk_drewN ?_ _ | refine blk_drew ?_ | refine blk_alloc ?_ _)); refine blk_far ?_ NB299_304.out _; (with_reducible repeat (first | refine blk_drewN ?_ _ | refine blk_drew ?_ | refine blk_alloc ?_ _)); refine blk_far ?_ NB299_304.out _; (with_reducible repeat (first | refine blk_drewN ?_ _ | refine blk_drew ?_ | refine blk_alloc ?_ _)); refine blk_far ?_ NB299_304.out _; (with_reducible repeat (first | refine blk_drewN ?_ _ | refine blk_drew ?_ | refine blk_alloc ?_ _)); exact BK299.out) hb); replace BK304 := Aside0.mk (blk_below (g := gb304) (o := .cells #[.int .i64 3, .int .i64 0, .string (⟨#[]⟩ : ByteArray), .bool true] 27 (0, 0)) (by (with_reducible repeat (first | refine blk_drewN ?_ _ | refine blk_drew ?_ | refine blk_alloc ?_ _)); refine blk_put (cs := #[.int .i64 3, .int .i64 0, .string (⟨#[]⟩ : ByteArray), .bool t303]) ?_ 3 _ rfl; (with_reducible repeat (first | refine blk_drewN ?_ _ | refine blk_drew ?_ | refine blk_alloc ?_ _)); refine blk_put (cs := #[.int .i64 3, .int .i64 0, .string t302, .bool t303]) ?_ 2 _ rfl; (with_reducible repeat (first | refine blk_drewN ?_ _ | refine blk_drew ?_ | refine blk_alloc ?_ _)); refine blk_put (cs := #[.int .i64 3, .int .i64 t301, .string t302, .bool t303]) ?_ 1 _ rfl; (with_reducible repeat (first | refine blk_drewN ?_ _ | refine blk_drew ?_ | refine blk_alloc ?_ _)); refine blk_put (cs := #[.int .i64 t300, .int .i64 t301, .string t302, .bool t303]) ?_ 0 _ rfl; (with_reducible repeat (first | refine blk_drewN ?_ _ | refine blk_drew ?_ | refine blk_alloc ?_ _)); refine blk_put (cs := #[.int .i64 t300, .int .i64 t301, .string t302, .bool false]) ?_ 3 _ rfl; (with_reducible repeat (first | refine blk_drewN ?_ _ | refine blk_drew ?_ | refine blk_alloc ?_ _)); refine blk_put (cs := #[.int .i64 t300, .int .i64 t301, .string (⟨#[]⟩ : ByteArray), .bool false]) ?_ 2 _ rfl; (with_reducible repeat (first | refine blk_drewN ?_ _ | refine blk_drew ?_ | refine blk_alloc ?_ _)); refine blk_put (cs := #[.int .i64 t300, .int .i64 0, .string (⟨#[]⟩ : ByteArray), .bool false]) ?_ 1 _ rfl; (with_reducible repeat (first | refine blk_drewN ?_ _ | refine blk_drew ?_ | refine blk_alloc ?_ _)); refine blk_put (cs := #[.int .i64 0, .int .i64 0, .string (⟨#[]⟩ : ByteArray), .bool false]) ?_ 0 _ rfl; (with_reducible repeat (first | refine blk_drewN ?_ _ | refine blk_drew ?_ | refine blk_alloc ?_ _)); exact BK304.out) hb); replace HB := bsA HB hb; (try clear hb); (try clear hb2); (try clear hk); (try clear hi); have hcz62_0 : w61.cell? ⟨gb299, 0, none⟩ = some (.int .i64 0) := (blk_cell BK299.out 0).trans rfl; have hcz62_1 : w61.cell? ⟨gb299, 1, none⟩ = some (.int .i64 0) := (blk_cell BK299.out 1).trans rfl; have hcz62_2 : w61.cell? ⟨gb299, 2, none⟩ = some (.string (⟨#[]⟩ : ByteArray)) := (blk_cell BK299.out 2).trans rfl; have hcz62_3 : w61.cell? ⟨gb299, 3, none⟩ = some (.bool false) := (blk_cell BK299.out 3).trans rfl; have hfz62_0 := blk_frozen BK299.out 0; have hfz62_1 := blk_frozen BK299.out 1; have hfz62_2 := blk_frozen BK299.out 2; have hfz62_3 := blk_frozen BK299.out 3))
                refine bodyPost_ret (results_ct rfl _ _ gb299 27 #[.int .i64 0, .int .i64 0, .string (⟨#[]⟩ : ByteArray), .bool false] (0, 0) _ rfl (by (with_reducible repeat (first | refine blk_drewN ?_ _ | refine blk_drew ?_ | refine blk_alloc ?_ _)); refine blk_put (cs := #[.int .i64 0, .int .i64 0, .string (⟨#[]⟩ : ByteArray), .bool false]) ?_ 3 _ rfl; (with_reducible repeat (first | refine blk_drewN ?_ _ | refine blk_drew ?_ | refine blk_alloc ?_ _)); refine blk_put (cs := #[.int .i64 0, .int .i64 0, .string (⟨#[]⟩ : ByteArray), .bool false]) ?_ 2 _ rfl; (with_reducible repeat (first | refine blk_drewN ?_ _ | refine blk_drew ?_ | refine blk_alloc ?_ _)); refine blk_put (cs := #[.int .i64 0, .int .i64 0, .string (⟨#[]⟩ : ByteArray), .bool false]) ?_ 1 _ rfl; (with_reducible repeat (first | refine blk_drewN ?_ _ | refine blk_drew ?_ | refine blk_alloc ?_ _)); refine blk_put (cs := #[.int .i64 0, .int .i64 0, .string (⟨#[]⟩ : ByteArray), .bool false]) ?_ 0 _ rfl; (with_reducible repeat (first | refine blk_drewN ?_ _ | refine blk_drew ?_ | refine blk_alloc ?_ _)); exact BK299.out) Tryz.underlying27 rfl (by kernel_rfl)) rfl ?_
                exact ⟨by first | rfl | (simp [errW_none, errW_some] <;> rfl) | (simp [*, errW_none, errW_some] <;> rfl), hbT HB.out⟩
            · rw [if_neg c40] at H
              have c40b0 : ((bt a0 0) == 84) = false := beq_eq_false_iff_ne.mpr c40
              have c40b1 : ((bt a0 0) != 84) = true := bne_iff_ne.mpr c40
              by_cases c63 : (bt a0 0) = 70
              · rw [if_pos c63] at H
                have c63b0 : ((bt a0 0) == 70) = true := beq_iff_eq.mpr c63
                have c63b1 : ((bt a0 0) != 70) = false := bne_eq_false_iff_eq.mpr c63
                clear c63
                replace H := Option.bind_eq_some_iff.mp H
                obtain ⟨⟨t313, t314⟩, A640, H⟩ := H
                replace H : (if t314 = 0 then (if t313.toList = a0.toList then (some (3, 0, (⟨#[]⟩ : ByteArray), false, 0)) else (some (0, 0, (⟨#[]⟩ : ByteArray), false, 12))) else (some (0, 0, (⟨#[]⟩ : ByteArray), false, 12))) = some (r1, r2, r3, r4, r5) := H
                have A64 := Aside0.mk A640
                clear A640
                by_cases c65 : t314 = 0
                · rw [if_pos c65] at H
                  have c65b0 : (t314 == 0) = true := beq_iff_eq.mpr c65
                  have c65b1 : (t314 != 0) = false := bne_eq_false_iff_eq.mpr c65
                  clear c65
                  by_cases c66 : t313.toList = a0.toList
                  · rw [if_pos c66] at H
                    have c66b0 : (t313.toList == a0.toList) = true := beq_iff_eq.mpr c66
                    have c66b1 : (t313.toList != a0.toList) = false := bne_eq_false_iff_eq.mpr c66
                    clear c66
                    simp only [Option.some.injEq, Prod.mk.injEq] at H
                    obtain ⟨rfl, rfl, rfl, rfl, rfl⟩ := H
                    go_wp2_with (first | ((with_reducible refine gate_callee (f := 30) rfl ?_); refine goesT (some 16) Tryz.func30 #[.string a0] ?_; (with_reducible refine (refrainref1_guessed.calls kj1 a0 t300 t301 t302 t303 _ A7.out).mono ?_); rintro e w67 ⟨rfl, hb⟩; refine ⟨_, rfl, ?_⟩; replace BK299 := bbA BK299 hb; replace HB := bsA HB hb; (try clear hb); (try clear hb2); (try clear hk); (try clear hi)) | ((with_reducible refine gate_dst (N := 4) rfl ?_); refine box_event ?hg (N := 4) ?hd (cs := #[.int .i64 0, .int .i64 0, .string (⟨#[]⟩ : ByteArray), .bool false]) (t := 27) ?hr ?_; (case hd => rfl); (case hg => rfl); (case hr => first | (go_simp; done) | (go_simp; rfl)); intro gb304 hg w68 hbox hb; have BK304 := Aside0.mk hbox; have GW304 := geA hg HB; have GE304 := geA hg HB; have NB299_304 := neA hg BK299; have NB304_299 := neB hg BK299; replace BK299 := bbA BK299 hb; replace HB := bsA HB hb; clear hb hbox hg; have hnb69 := NB304_299.out; have hnc69 := NB299_304.out; have hcz70_0 : w68.cell? ⟨gb304, 0, none⟩ = some (.int .i64 0) := (blk_cell BK304.out 0).trans rfl; have hcz70_1 : w68.cell? ⟨gb304, 1, none⟩ = some (.int .i64 0) := (blk_cell BK304.out 1).trans rfl; have hcz70_2 : w68.cell? ⟨gb304, 2, none⟩ = some (.string (⟨#[]⟩ : ByteArray)) := (blk_cell BK304.out 2).trans rfl; have hcz70_3 : w68.cell? ⟨gb304, 3, none⟩ = some (.bool false) := (blk_cell BK304.out 3).trans rfl; have hfz70_0 := blk_frozen BK304.out 0; have hfz70_1 := blk_frozen BK304.out 1; have hfz70_2 := blk_frozen BK304.out 2; have hfz70_3 := blk_frozen BK304.out 3; have p9 : 0 ≤ (0 : Int) := (by omega); have q9 : 0 < a0.size := (by have : (0 : Int) < (a0.size : Int) := of_decide_eq_true (by first | (with_reducible assumption) | assumption); omega); have hx9 : ∀ h : 0 < a0.size, ((a0[0]'h).toNat : Int) = bt a0 0 := bt_at a0 0; clear p9; have qi9 : (0 < (a0.size : Int)) = True := eq_true (of_decide_eq_true (by first | (with_reducible assumption) | assumption)); replace q9 := eq_true q9) | ((with_reducible refine gate_callee (f := 11) rfl ?_); refine goesT (some 31) Tryz.func11 #[.agg #[.int .i64 3, .int .i64 0, .string (⟨#[]⟩ : ByteArray), .bool false]] ?_; (with_reducible refine (refrainref1_Show.calls kj1 3 0 (⟨#[]⟩ : ByteArray) false t313 t314 _ A64.out).mono ?_); rintro e w71 ⟨rfl, hb⟩; refine ⟨_, rfl, ?_⟩; replace BK299 := Aside0.mk (blk_below (g := gb299) (o := .cells #[.int .i64 0, .int .i64 0, .string (⟨#[]⟩ : ByteArray), .bool false] 27 (0, 0)) (by (with_reducible repeat (first | refine blk_drewN ?_ _ | refine blk_drew ?_ | refine blk_alloc ?_ _)); refine blk_far ?_ NB299_304.out _; (with_reducible repeat (first | refine blk_drewN ?_ _ | refine blk_drew ?_ | refine blk_alloc ?_ _)); refine blk_far ?_ NB299_304.out _; (with_reducible repeat (first | refine blk_drewN ?_ _ | refine blk_drew ?_ | refine blk_alloc ?_ _)); refine blk_far ?_ NB299_304.out _; (with_reducible repeat (first | refine blk_drewN ?_ _ | refine blk_drew ?_ | refine blk_alloc ?_ _)); refine blk_far ?_ NB299_304.out _; (with_reducible repeat (first | refine blk_drewN ?_ _ | refine blk_drew ?_ | refine blk_alloc ?_ _)); refine blk_far ?_ NB299_304.out _; (with_reducible repeat (first | refine blk_drewN ?_ _ | refine blk_drew ?_ | refine blk_alloc ?_ _)); refine blk_far ?_ NB299_304.out _; (with_reducible repeat (first | refine blk_drewN ?_ _ | refine blk_drew ?_ | refine blk_alloc ?_ _)); refine blk_far ?_ NB299_304.out _; (with_reducible repeat (first | refine blk_drewN ?_ _ | refine blk_drew ?_ | refine blk_alloc ?_ _)); refine blk_far ?_ NB299_304.out _; (with_reducible repeat (first | refine blk_drewN ?_ _ | refine blk_drew ?_ | refine blk_alloc ?_ _)); exact BK299.out) hb); replace BK304 := Aside0.mk (blk_below (g := gb304) (o := .cells #[.int .i64 3, .int .i64 0, .string (⟨#[]⟩ : ByteArray), .bool false] 27 (0, 0)) (by (with_reducible repeat (first | refine blk_drewN ?_ _ | refine blk_drew ?_ | refine blk_alloc ?_ _)); refine blk_put (cs := #[.int .i64 3, .int .i64 0, .string (⟨#[]⟩ : ByteArray), .bool t303]) ?_ 3 _ rfl; (with_reducible repeat (first | refine blk_drewN ?_ _ | refine blk_drew ?_ | refine blk_alloc ?_ _)); refine blk_put (cs := #[.int .i64 3, .int .i64 0, .string t302, .bool t303]) ?_ 2 _ rfl; (with_reducible repeat (first | refine blk_drewN ?_ _ | refine blk_drew ?_ | refine blk_alloc ?_ _)); refine blk_put (cs := #[.int .i64 3, .int .i64 t301, .string t302, .bool t303]) ?_ 1 _ rfl; (with_reducible repeat (first | refine blk_drewN ?_ _ | refine blk_drew ?_ | refine blk_alloc ?_ _)); refine blk_put (cs := #[.int .i64 t300, .int .i64 t301, .string t302, .bool t303]) ?_ 0 _ rfl; (with_reducible repeat (first | refine blk_drewN ?_ _ | refine blk_drew ?_ | refine blk_alloc ?_ _)); refine blk_put (cs := #[.int .i64 t300, .int .i64 t301, .string t302, .bool false]) ?_ 3 _ rfl; (with_reducible repeat (first | refine blk_drewN ?_ _ | refine blk_drew ?_ | refine blk_alloc ?_ _)); refine blk_put (cs := #[.int .i64 t300, .int .i64 t301, .string (⟨#[]⟩ : ByteArray), .bool false]) ?_ 2 _ rfl; (with_reducible repeat (first | refine blk_drewN ?_ _ | refine blk_drew ?_ | refine blk_alloc ?_ _)); refine blk_put (cs := #[.int .i64 t300, .int .i64 0, .string (⟨#[]⟩ : ByteArray), .bool false]) ?_ 1 _ rfl; (with_reducible repeat (first | refine blk_drewN ?_ _ | refine blk_drew ?_ | refine blk_alloc ?_ _)); refine blk_put (cs := #[.int .i64 0, .int .i64 0, .string (⟨#[]⟩ : ByteArray), .bool false]) ?_ 0 _ rfl; (with_reducible repeat (first | refine blk_drewN ?_ _ | refine blk_drew ?_ | refine blk_alloc ?_ _)); exact BK304.out) hb); replace HB := bsA HB hb; (try clear hb); (try clear hb2); (try clear hk); (try clear hi); have hcz72_0 : w71.cell? ⟨gb304, 0, none⟩ = some (.int .i64 3) := (blk_cell BK304.out 0).trans rfl; have hcz72_1 : w71.cell? ⟨gb304, 1, none⟩ = some (.int .i64 0) := (blk_cell BK304.out 1).trans rfl; have hcz72_2 : w71.cell? ⟨gb304, 2, none⟩ = some (.string (⟨#[]⟩ : ByteArray)) := (blk_cell BK304.out 2).trans rfl; have hcz72_3 : w71.cell? ⟨gb304, 3, none⟩ = some (.bool false) := (blk_cell BK304.out 3).trans rfl; have hfz72_0 := blk_frozen BK304.out 0; have hfz72_1 := blk_frozen BK304.out 1; have hfz72_2 := blk_frozen BK304.out 2; have hfz72_3 := blk_frozen BK304.out 3; have hcz73_0 : w71.cell? ⟨gb299, 0, none⟩ = some (.int .i64 0) := (blk_cell BK299.out 0).trans rfl; have hcz73_1 : w71.cell? ⟨gb299, 1, none⟩ = some (.int .i64 0) := (blk_cell BK299.out 1).trans rfl; have hcz73_2 : w71.cell? ⟨gb299, 2, none⟩ = some (.string (⟨#[]⟩ : ByteArray)) := (blk_cell BK299.out 2).trans rfl; have hcz73_3 : w71.cell? ⟨gb299, 3, none⟩ = some (.bool false) := (blk_cell BK299.out 3).trans rfl; have hfz73_0 := blk_frozen BK299.out 0; have hfz73_1 := blk_frozen BK299.out 1; have hfz73_2 := blk_frozen BK299.out 2; have hfz73_3 := blk_frozen BK299.out 3))
                    refine bodyPost_ret (results_ct rfl _ _ gb299 27 #[.int .i64 3, .int .i64 0, .string (⟨#[]⟩ : ByteArray), .bool false] (0, 0) _ rfl (by (with_reducible repeat (first | refine blk_drewN ?_ _ | refine blk_drew ?_ | refine blk_alloc ?_ _)); refine blk_put (cs := #[.int .i64 3, .int .i64 0, .string (⟨#[]⟩ : ByteArray), .bool false]) ?_ 3 _ rfl; (with_reducible repeat (first | refine blk_drewN ?_ _ | refine blk_drew ?_ | refine blk_alloc ?_ _)); refine blk_put (cs := #[.int .i64 3, .int .i64 0, .string (⟨#[]⟩ : ByteArray), .bool false]) ?_ 2 _ rfl; (with_reducible repeat (first | refine blk_drewN ?_ _ | refine blk_drew ?_ | refine blk_alloc ?_ _)); refine blk_put (cs := #[.int .i64 3, .int .i64 0, .string (⟨#[]⟩ : ByteArray), .bool false]) ?_ 1 _ rfl; (with_reducible repeat (first | refine blk_drewN ?_ _ | refine blk_drew ?_ | refine blk_alloc ?_ _)); refine blk_put (cs := #[.int .i64 0, .int .i64 0, .string (⟨#[]⟩ : ByteArray), .bool false]) ?_ 0 _ rfl; (with_reducible repeat (first | refine blk_drewN ?_ _ | refine blk_drew ?_ | refine blk_alloc ?_ _)); exact BK299.out) Tryz.underlying27 rfl (by kernel_rfl)) rfl ?_
                    exact ⟨by first | rfl | (simp [errW_none, errW_some] <;> rfl) | (simp [*, errW_none, errW_some] <;> rfl), hbT HB.out⟩
                  · rw [if_neg c66] at H
                    have c66b0 : (t313.toList == a0.toList) = false := beq_eq_false_iff_ne.mpr c66
                    have c66b1 : (t313.toList != a0.toList) = true := bne_iff_ne.mpr c66
                    simp only [Option.some.injEq, Prod.mk.injEq] at H
                    obtain ⟨rfl, rfl, rfl, rfl, rfl⟩ := H
                    go_wp2_with (first | ((with_reducible refine gate_callee (f := 30) rfl ?_); refine goesT (some 16) Tryz.func30 #[.string a0] ?_; (with_reducible refine (refrainref1_guessed.calls kj1 a0 t300 t301 t302 t303 _ A7.out).mono ?_); rintro e w74 ⟨rfl, hb⟩; refine ⟨_, rfl, ?_⟩; replace BK299 := bbA BK299 hb; replace HB := bsA HB hb; (try clear hb); (try clear hb2); (try clear hk); (try clear hi)) | ((with_reducible refine gate_dst (N := 4) rfl ?_); refine box_event ?hg (N := 4) ?hd (cs := #[.int .i64 0, .int .i64 0, .string (⟨#[]⟩ : ByteArray), .bool false]) (t := 27) ?hr ?_; (case hd => rfl); (case hg => rfl); (case hr => first | (go_simp; done) | (go_simp; rfl)); intro gb304 hg w75 hbox hb; have BK304 := Aside0.mk hbox; have GW304 := geA hg HB; have GE304 := geA hg HB; have NB299_304 := neA hg BK299; have NB304_299 := neB hg BK299; replace BK299 := bbA BK299 hb; replace HB := bsA HB hb; clear hb hbox hg; have hnb76 := NB304_299.out; have hnc76 := NB299_304.out; have hcz77_0 : w75.cell? ⟨gb304, 0, none⟩ = some (.int .i64 0) := (blk_cell BK304.out 0).trans rfl; have hcz77_1 : w75.cell? ⟨gb304, 1, none⟩ = some (.int .i64 0) := (blk_cell BK304.out 1).trans rfl; have hcz77_2 : w75.cell? ⟨gb304, 2, none⟩ = some (.string (⟨#[]⟩ : ByteArray)) := (blk_cell BK304.out 2).trans rfl; have hcz77_3 : w75.cell? ⟨gb304, 3, none⟩ = some (.bool false) := (blk_cell BK304.out 3).trans rfl; have hfz77_0 := blk_frozen BK304.out 0; have hfz77_1 := blk_frozen BK304.out 1; have hfz77_2 := blk_frozen BK304.out 2; have hfz77_3 := blk_frozen BK304.out 3; have p9 : 0 ≤ (0 : Int) := (by omega); have q9 : 0 < a0.size := (by have : (0 : Int) < (a0.size : Int) := of_decide_eq_true (by first | (with_reducible assumption) | assumption); omega); have hx9 : ∀ h : 0 < a0.size, ((a0[0]'h).toNat : Int) = bt a0 0 := bt_at a0 0; clear p9; have qi9 : (0 < (a0.size : Int)) = True := eq_true (of_decide_eq_true (by first | (with_reducible assumption) | assumption)); replace q9 := eq_true q9) | ((with_reducible refine gate_callee (f := 11) rfl ?_); refine goesT (some 31) Tryz.func11 #[.agg #[.int .i64 3, .int .i64 0, .string (⟨#[]⟩ : ByteArray), .bool false]] ?_; (with_reducible refine (refrainref1_Show.calls kj1 3 0 (⟨#[]⟩ : ByteArray) false t313 t314 _ A64.out).mono ?_); rintro e w78 ⟨rfl, hb⟩; refine ⟨_, rfl, ?_⟩; replace BK299 := Aside0.mk (blk_below (g := gb299) (o := .cells #[.int .i64 0, .int .i64 0, .string (⟨#[]⟩ : ByteArray), .bool false] 27 (0, 0)) (by (with_reducible repeat (first | refine blk_drewN ?_ _ | refine blk_drew ?_ | refine blk_alloc ?_ _)); refine blk_far ?_ NB299_304.out _; (with_reducible repeat (first | refine blk_drewN ?_ _ | refine blk_drew ?_ | refine blk_alloc ?_ _)); refine blk_far ?_ NB299_304.out _; (with_reducible repeat (first | refine blk_drewN ?_ _ | refine blk_drew ?_ | refine blk_alloc ?_ _)); refine blk_far ?_ NB299_304.out _; (with_reducible repeat (first | refine blk_drewN ?_ _ | refine blk_drew ?_ | refine blk_alloc ?_ _)); refine blk_far ?_ NB299_304.out _; (with_reducible repeat (first | refine blk_drewN ?_ _ | refine blk_drew ?_ | refine blk_alloc ?_ _)); refine blk_far ?_ NB299_304.out _; (with_reducible repeat (first | refine blk_drewN ?_ _ | refine blk_drew ?_ | refine blk_alloc ?_ _)); refine blk_far ?_ NB299_304.out _; (with_reducible repeat (first | refine blk_drewN ?_ _ | refine blk_drew ?_ | refine blk_alloc ?_ _)); refine blk_far ?_ NB299_304.out _; (with_reducible repeat (first | refine blk_drewN ?_ _ | refine blk_drew ?_ | refine blk_alloc ?_ _)); refine blk_far ?_ NB299_304.out _; (with_reducible repeat (first | refine blk_drewN ?_ _ | refine blk_drew ?_ | refine blk_alloc ?_ _)); exact BK299.out) hb); replace BK304 := Aside0.mk (blk_below (g := gb304) (o := .cells #[.int .i64 3, .int .i64 0, .string (⟨#[]⟩ : ByteArray), .bool false] 27 (0, 0)) (by (with_reducible repeat (first | refine blk_drewN ?_ _ | refine blk_drew ?_ | refine blk_alloc ?_ _)); refine blk_put (cs := #[.int .i64 3, .int .i64 0, .string (⟨#[]⟩ : ByteArray), .bool t303]) ?_ 3 _ rfl; (with_reducible repeat (first | refine blk_drewN ?_ _ | refine blk_drew ?_ | refine blk_alloc ?_ _)); refine blk_put (cs := #[.int .i64 3, .int .i64 0, .string t302, .bool t303]) ?_ 2 _ rfl; (with_reducible repeat (first | refine blk_drewN ?_ _ | refine blk_drew ?_ | refine blk_alloc ?_ _)); refine blk_put (cs := #[.int .i64 3, .int .i64 t301, .string t302, .bool t303]) ?_ 1 _ rfl; (with_reducible repeat (first | refine blk_drewN ?_ _ | refine blk_drew ?_ | refine blk_alloc ?_ _)); refine blk_put (cs := #[.int .i64 t300, .int .i64 t301, .string t302, .bool t303]) ?_ 0 _ rfl; (with_reducible repeat (first | refine blk_drewN ?_ _ | refine blk_drew ?_ | refine blk_alloc ?_ _)); refine blk_put (cs := #[.int .i64 t300, .int .i64 t301, .string t302, .bool false]) ?_ 3 _ rfl; (with_reducible repeat (first | refine blk_drewN ?_ _ | refine blk_drew ?_ | refine blk_alloc ?_ _)); refine blk_put (cs := #[.int .i64 t300, .int .i64 t301, .string (⟨#[]⟩ : ByteArray), .bool false]) ?_ 2 _ rfl; (with_reducible repeat (first | refine blk_drewN ?_ _ | refine blk_drew ?_ | refine blk_alloc ?_ _)); refine blk_put (cs := #[.int .i64 t300, .int .i64 0, .string (⟨#[]⟩ : ByteArray), .bool false]) ?_ 1 _ rfl; (with_reducible repeat (first | refine blk_drewN ?_ _ | refine blk_drew ?_ | refine blk_alloc ?_ _)); refine blk_put (cs := #[.int .i64 0, .int .i64 0, .string (⟨#[]⟩ : ByteArray), .bool false]) ?_ 0 _ rfl; (with_reducible repeat (first | refine blk_drewN ?_ _ | refine blk_drew ?_ | refine blk_alloc ?_ _)); exact BK304.out) hb); replace HB := bsA HB hb; (try clear hb); (try clear hb2); (try clear hk); (try clear hi); have hcz79_0 : w78.cell? ⟨gb299, 0, none⟩ = some (.int .i64 0) := (blk_cell BK299.out 0).trans rfl; have hcz79_1 : w78.cell? ⟨gb299, 1, none⟩ = some (.int .i64 0) := (blk_cell BK299.out 1).trans rfl; have hcz79_2 : w78.cell? ⟨gb299, 2, none⟩ = some (.string (⟨#[]⟩ : ByteArray)) := (blk_cell BK299.out 2).trans rfl; have hcz79_3 : w78.cell? ⟨gb299, 3, none⟩ = some (.bool false) := (blk_cell BK299.out 3).trans rfl; have hfz79_0 := blk_frozen BK299.out 0; have hfz79_1 := blk_frozen BK299.out 1; have hfz79_2 := blk_frozen BK299.out 2; have hfz79_3 := blk_frozen BK299.out 3))
                    refine bodyPost_ret (results_ct rfl _ _ gb299 27 #[.int .i64 0, .int .i64 0, .string (⟨#[]⟩ : ByteArray), .bool false] (0, 0) _ rfl (by (with_reducible repeat (first | refine blk_drewN ?_ _ | refine blk_drew ?_ | refine blk_alloc ?_ _)); refine blk_put (cs := #[.int .i64 0, .int .i64 0, .string (⟨#[]⟩ : ByteArray), .bool false]) ?_ 3 _ rfl; (with_reducible repeat (first | refine blk_drewN ?_ _ | refine blk_drew ?_ | refine blk_alloc ?_ _)); refine blk_put (cs := #[.int .i64 0, .int .i64 0, .string (⟨#[]⟩ : ByteArray), .bool false]) ?_ 2 _ rfl; (with_reducible repeat (first | refine blk_drewN ?_ _ | refine blk_drew ?_ | refine blk_alloc ?_ _)); refine blk_put (cs := #[.int .i64 0, .int .i64 0, .string (⟨#[]⟩ : ByteArray), .bool false]) ?_ 1 _ rfl; (with_reducible repeat (first | refine blk_drewN ?_ _ | refine blk_drew ?_ | refine blk_alloc ?_ _)); refine blk_put (cs := #[.int .i64 0, .int .i64 0, .string (⟨#[]⟩ : ByteArray), .bool false]) ?_ 0 _ rfl; (with_reducible repeat (first | refine blk_drewN ?_ _ | refine blk_drew ?_ | refine blk_alloc ?_ _)); exact BK299.out) Tryz.underlying27 rfl (by kernel_rfl)) rfl ?_
                    exact ⟨by first | rfl | (simp [errW_none, errW_some] <;> rfl) | (simp [*, errW_none, errW_some] <;> rfl), hbT HB.out⟩
                · rw [if_neg c65] at H
                  have c65b0 : (t314 == 0) = false := beq_eq_false_iff_ne.mpr c65
                  have c65b1 : (t314 != 0) = true := bne_iff_ne.mpr c65
                  simp only [Option.some.injEq, Prod.mk.injEq] at H
                  obtain ⟨rfl, rfl, rfl, rfl, rfl⟩ := H
                  go_wp2_with (first | ((with_reducible refine gate_callee (f := 30) rfl ?_); refine goesT (some 16) Tryz.func30 #[.string a0] ?_; (with_reducible refine (refrainref1_guessed.calls kj1 a0 t300 t301 t302 t303 _ A7.out).mono ?_); rintro e w80 ⟨rfl, hb⟩; refine ⟨_, rfl, ?_⟩; replace BK299 := bbA BK299 hb; replace HB := bsA HB hb; (try clear hb); (try clear hb2); (try clear hk); (try clear hi)) | ((with_reducible refine gate_dst (N := 4) rfl ?_); refine box_event ?hg (N := 4) ?hd (cs := #[.int .i64 0, .int .i64 0, .string (⟨#[]⟩ : ByteArray), .bool false]) (t := 27) ?hr ?_; (case hd => rfl); (case hg => rfl); (case hr => first | (go_simp; done) | (go_simp; rfl)); intro gb304 hg w81 hbox hb; have BK304 := Aside0.mk hbox; have GW304 := geA hg HB; have GE304 := geA hg HB; have NB299_304 := neA hg BK299; have NB304_299 := neB hg BK299; replace BK299 := bbA BK299 hb; replace HB := bsA HB hb; clear hb hbox hg; have hnb82 := NB304_299.out; have hnc82 := NB299_304.out; have hcz83_0 : w81.cell? ⟨gb304, 0, none⟩ = some (.int .i64 0) := (blk_cell BK304.out 0).trans rfl; have hcz83_1 : w81.cell? ⟨gb304, 1, none⟩ = some (.int .i64 0) := (blk_cell BK304.out 1).trans rfl; have hcz83_2 : w81.cell? ⟨gb304, 2, none⟩ = some (.string (⟨#[]⟩ : ByteArray)) := (blk_cell BK304.out 2).trans rfl; have hcz83_3 : w81.cell? ⟨gb304, 3, none⟩ = some (.bool false) := (blk_cell BK304.out 3).trans rfl; have hfz83_0 := blk_frozen BK304.out 0; have hfz83_1 := blk_frozen BK304.out 1; have hfz83_2 := blk_frozen BK304.out 2; have hfz83_3 := blk_frozen BK304.out 3; have p9 : 0 ≤ (0 : Int) := (by omega); have q9 : 0 < a0.size := (by have : (0 : Int) < (a0.size : Int) := of_decide_eq_true (by first | (with_reducible assumption) | assumption); omega); have hx9 : ∀ h : 0 < a0.size, ((a0[0]'h).toNat : Int) = bt a0 0 := bt_at a0 0; clear p9; have qi9 : (0 < (a0.size : Int)) = True := eq_true (of_decide_eq_true (by first | (with_reducible assumption) | assumption)); replace q9 := eq_true q9) | ((with_reducible refine gate_callee (f := 11) rfl ?_); refine goesT (some 31) Tryz.func11 #[.agg #[.int .i64 3, .int .i64 0, .string (⟨#[]⟩ : ByteArray), .bool false]] ?_; (with_reducible refine (refrainref1_Show.calls kj1 3 0 (⟨#[]⟩ : ByteArray) false t313 t314 _ A64.out).mono ?_); rintro e w84 ⟨rfl, hb⟩; refine ⟨_, rfl, ?_⟩; replace BK299 := Aside0.mk (blk_below (g := gb299) (o := .cells #[.int .i64 0, .int .i64 0, .string (⟨#[]⟩ : ByteArray), .bool false] 27 (0, 0)) (by (with_reducible repeat (first | refine blk_drewN ?_ _ | refine blk_drew ?_ | refine blk_alloc ?_ _)); refine blk_far ?_ NB299_304.out _; (with_reducible repeat (first | refine blk_drewN ?_ _ | refine blk_drew ?_ | refine blk_alloc ?_ _)); refine blk_far ?_ NB299_304.out _; (with_reducible repeat (first | refine blk_drewN ?_ _ | refine blk_drew ?_ | refine blk_alloc ?_ _)); refine blk_far ?_ NB299_304.out _; (with_reducible repeat (first | refine blk_drewN ?_ _ | refine blk_drew ?_ | refine blk_alloc ?_ _)); refine blk_far ?_ NB299_304.out _; (with_reducible repeat (first | refine blk_drewN ?_ _ | refine blk_drew ?_ | refine blk_alloc ?_ _)); refine blk_far ?_ NB299_304.out _; (with_reducible repeat (first | refine blk_drewN ?_ _ | refine blk_drew ?_ | refine blk_alloc ?_ _)); refine blk_far ?_ NB299_304.out _; (with_reducible repeat (first | refine blk_drewN ?_ _ | refine blk_drew ?_ | refine blk_alloc ?_ _)); refine blk_far ?_ NB299_304.out _; (with_reducible repeat (first | refine blk_drewN ?_ _ | refine blk_drew ?_ | refine blk_alloc ?_ _)); refine blk_far ?_ NB299_304.out _; (with_reducible repeat (first | refine blk_drewN ?_ _ | refine blk_drew ?_ | refine blk_alloc ?_ _)); exact BK299.out) hb); replace BK304 := Aside0.mk (blk_below (g := gb304) (o := .cells #[.int .i64 3, .int .i64 0, .string (⟨#[]⟩ : ByteArray), .bool false] 27 (0, 0)) (by (with_reducible repeat (first | refine blk_drewN ?_ _ | refine blk_drew ?_ | refine blk_alloc ?_ _)); refine blk_put (cs := #[.int .i64 3, .int .i64 0, .string (⟨#[]⟩ : ByteArray), .bool t303]) ?_ 3 _ rfl; (with_reducible repeat (first | refine blk_drewN ?_ _ | refine blk_drew ?_ | refine blk_alloc ?_ _)); refine blk_put (cs := #[.int .i64 3, .int .i64 0, .string t302, .bool t303]) ?_ 2 _ rfl; (with_reducible repeat (first | refine blk_drewN ?_ _ | refine blk_drew ?_ | refine blk_alloc ?_ _)); refine blk_put (cs := #[.int .i64 3, .int .i64 t301, .string t302, .bool t303]) ?_ 1 _ rfl; (with_reducible repeat (first | refine blk_drewN ?_ _ | refine blk_drew ?_ | refine blk_alloc ?_ _)); refine blk_put (cs := #[.int .i64 t300, .int .i64 t301, .string t302, .bool t303]) ?_ 0 _ rfl; (with_reducible repeat (first | refine blk_drewN ?_ _ | refine blk_drew ?_ | refine blk_alloc ?_ _)); refine blk_put (cs := #[.int .i64 t300, .int .i64 t301, .string t302, .bool false]) ?_ 3 _ rfl; (with_reducible repeat (first | refine blk_drewN ?_ _ | refine blk_drew ?_ | refine blk_alloc ?_ _)); refine blk_put (cs := #[.int .i64 t300, .int .i64 t301, .string (⟨#[]⟩ : ByteArray), .bool false]) ?_ 2 _ rfl; (with_reducible repeat (first | refine blk_drewN ?_ _ | refine blk_drew ?_ | refine blk_alloc ?_ _)); refine blk_put (cs := #[.int .i64 t300, .int .i64 0, .string (⟨#[]⟩ : ByteArray), .bool false]) ?_ 1 _ rfl; (with_reducible repeat (first | refine blk_drewN ?_ _ | refine blk_drew ?_ | refine blk_alloc ?_ _)); refine blk_put (cs := #[.int .i64 0, .int .i64 0, .string (⟨#[]⟩ : ByteArray), .bool false]) ?_ 0 _ rfl; (with_reducible repeat (first | refine blk_drewN ?_ _ | refine blk_drew ?_ | refine blk_alloc ?_ _)); exact BK304.out) hb); replace HB := bsA HB hb; (try clear hb); (try clear hb2); (try clear hk); (try clear hi); have hcz85_0 : w84.cell? ⟨gb299, 0, none⟩ = some (.int .i64 0) := (blk_cell BK299.out 0).trans rfl; have hcz85_1 : w84.cell? ⟨gb299, 1, none⟩ = some (.int .i64 0) := (blk_cell BK299.out 1).trans rfl; have hcz85_2 : w84.cell? ⟨gb299, 2, none⟩ = some (.string (⟨#[]⟩ : ByteArray)) := (blk_cell BK299.out 2).trans rfl; have hcz85_3 : w84.cell? ⟨gb299, 3, none⟩ = some (.bool false) := (blk_cell BK299.out 3).trans rfl; have hfz85_0 := blk_frozen BK299.out 0; have hfz85_1 := blk_frozen BK299.out 1; have hfz85_2 := blk_frozen BK299.out 2; have hfz85_3 := blk_frozen BK299.out 3))
                  refine bodyPost_ret (results_ct rfl _ _ gb299 27 #[.int .i64 0, .int .i64 0, .string (⟨#[]⟩ : ByteArray), .bool false] (0, 0) _ rfl (by (with_reducible repeat (first | refine blk_drewN ?_ _ | refine blk_drew ?_ | refine blk_alloc ?_ _)); refine blk_put (cs := #[.int .i64 0, .int .i64 0, .string (⟨#[]⟩ : ByteArray), .bool false]) ?_ 3 _ rfl; (with_reducible repeat (first | refine blk_drewN ?_ _ | refine blk_drew ?_ | refine blk_alloc ?_ _)); refine blk_put (cs := #[.int .i64 0, .int .i64 0, .string (⟨#[]⟩ : ByteArray), .bool false]) ?_ 2 _ rfl; (with_reducible repeat (first | refine blk_drewN ?_ _ | refine blk_drew ?_ | refine blk_alloc ?_ _)); refine blk_put (cs := #[.int .i64 0, .int .i64 0, .string (⟨#[]⟩ : ByteArray), .bool false]) ?_ 1 _ rfl; (with_reducible repeat (first | refine blk_drewN ?_ _ | refine blk_drew ?_ | refine blk_alloc ?_ _)); refine blk_put (cs := #[.int .i64 0, .int .i64 0, .string (⟨#[]⟩ : ByteArray), .bool false]) ?_ 0 _ rfl; (with_reducible repeat (first | refine blk_drewN ?_ _ | refine blk_drew ?_ | refine blk_alloc ?_ _)); exact BK299.out) Tryz.underlying27 rfl (by kernel_rfl)) rfl ?_
                  exact ⟨by first | rfl | (simp [errW_none, errW_some] <;> rfl) | (simp [*, errW_none, errW_some] <;> rfl), hbT HB.out⟩
              · rw [if_neg c63] at H
                have c63b0 : ((bt a0 0) == 70) = false := beq_eq_false_iff_ne.mpr c63
                have c63b1 : ((bt a0 0) != 70) = true := bne_iff_ne.mpr c63
                replace H := Option.bind_eq_some_iff.mp H
                obtain ⟨⟨t315, t316⟩, A860, H⟩ := H
                replace H : (if t316 = 0 then (if t315.toList = a0.toList then (some (t300, t301, t302, t303, 0)) else (some (0, 0, (⟨#[]⟩ : ByteArray), false, 12))) else (some (0, 0, (⟨#[]⟩ : ByteArray), false, 12))) = some (r1, r2, r3, r4, r5) := H
                have A86 := Aside0.mk A860
                clear A860
                by_cases c87 : t316 = 0
                · rw [if_pos c87] at H
                  have c87b0 : (t316 == 0) = true := beq_iff_eq.mpr c87
                  have c87b1 : (t316 != 0) = false := bne_eq_false_iff_eq.mpr c87
                  clear c87
                  by_cases c88 : t315.toList = a0.toList
                  · rw [if_pos c88] at H
                    have c88b0 : (t315.toList == a0.toList) = true := beq_iff_eq.mpr c88
                    have c88b1 : (t315.toList != a0.toList) = false := bne_eq_false_iff_eq.mpr c88
                    clear c88
                    simp only [Option.some.injEq, Prod.mk.injEq] at H
                    obtain ⟨rfl, rfl, rfl, rfl, rfl⟩ := H
                    go_wp2_with (first | ((with_reducible refine gate_callee (f := 30) rfl ?_); refine goesT (some 16) Tryz.func30 #[.string a0] ?_; (with_reducible refine (refrainref1_guessed.calls kj1 a0 t300 t301 t302 t303 _ A7.out).mono ?_); rintro e w89 ⟨rfl, hb⟩; refine ⟨_, rfl, ?_⟩; replace BK299 := bbA BK299 hb; replace HB := bsA HB hb; (try clear hb); (try clear hb2); (try clear hk); (try clear hi)) | ((with_reducible refine gate_dst (N := 4) rfl ?_); refine box_event ?hg (N := 4) ?hd (cs := #[.int .i64 0, .int .i64 0, .string (⟨#[]⟩ : ByteArray), .bool false]) (t := 27) ?hr ?_; (case hd => rfl); (case hg => rfl); (case hr => first | (go_simp; done) | (go_simp; rfl)); intro gb304 hg w90 hbox hb; have BK304 := Aside0.mk hbox; have GW304 := geA hg HB; have GE304 := geA hg HB; have NB299_304 := neA hg BK299; have NB304_299 := neB hg BK299; replace BK299 := bbA BK299 hb; replace HB := bsA HB hb; clear hb hbox hg; have hnb91 := NB304_299.out; have hnc91 := NB299_304.out; have hcz92_0 : w90.cell? ⟨gb304, 0, none⟩ = some (.int .i64 0) := (blk_cell BK304.out 0).trans rfl; have hcz92_1 : w90.cell? ⟨gb304, 1, none⟩ = some (.int .i64 0) := (blk_cell BK304.out 1).trans rfl; have hcz92_2 : w90.cell? ⟨gb304, 2, none⟩ = some (.string (⟨#[]⟩ : ByteArray)) := (blk_cell BK304.out 2).trans rfl; have hcz92_3 : w90.cell? ⟨gb304, 3, none⟩ = some (.bool false) := (blk_cell BK304.out 3).trans rfl; have hfz92_0 := blk_frozen BK304.out 0; have hfz92_1 := blk_frozen BK304.out 1; have hfz92_2 := blk_frozen BK304.out 2; have hfz92_3 := blk_frozen BK304.out 3; have p9 : 0 ≤ (0 : Int) := (by omega); have q9 : 0 < a0.size := (by have : (0 : Int) < (a0.size : Int) := of_decide_eq_true (by first | (with_reducible assumption) | assumption); omega); have hx9 : ∀ h : 0 < a0.size, ((a0[0]'h).toNat : Int) = bt a0 0 := bt_at a0 0; clear p9; have qi9 : (0 < (a0.size : Int)) = True := eq_true (of_decide_eq_true (by first | (with_reducible assumption) | assumption)); replace q9 := eq_true q9) | ((with_reducible refine gate_callee (f := 11) rfl ?_); refine goesT (some 31) Tryz.func11 #[.agg #[.int .i64 t300, .int .i64 t301, .string t302, .bool t303]] ?_; (with_reducible refine (refrainref1_Show.calls kj1 t300 t301 t302 t303 t315 t316 _ A86.out).mono ?_); rintro e w93 ⟨rfl, hb⟩; refine ⟨_, rfl, ?_⟩; replace BK299 := Aside0.mk (blk_below (g := gb299) (o := .cells #[.int .i64 0, .int .i64 0, .string (⟨#[]⟩ : ByteArray), .bool false] 27 (0, 0)) (by (with_reducible repeat (first | refine blk_drewN ?_ _ | refine blk_drew ?_ | refine blk_alloc ?_ _)); refine blk_far ?_ NB299_304.out _; (with_reducible repeat (first | refine blk_drewN ?_ _ | refine blk_drew ?_ | refine blk_alloc ?_ _)); refine blk_far ?_ NB299_304.out _; (with_reducible repeat (first | refine blk_drewN ?_ _ | refine blk_drew ?_ | refine blk_alloc ?_ _)); refine blk_far ?_ NB299_304.out _; (with_reducible repeat (first | refine blk_drewN ?_ _ | refine blk_drew ?_ | refine blk_alloc ?_ _)); refine blk_far ?_ NB299_304.out _; (with_reducible repeat (first | refine blk_drewN ?_ _ | refine blk_drew ?_ | refine blk_alloc ?_ _)); exact BK299.out) hb); replace BK304 := Aside0.mk (blk_below (g := gb304) (o := .cells #[.int .i64 t300, .int .i64 t301, .string t302, .bool t303] 27 (0, 0)) (by (with_reducible repeat (first | refine blk_drewN ?_ _ | refine blk_drew ?_ | refine blk_alloc ?_ _)); refine blk_put (cs := #[.int .i64 t300, .int .i64 t301, .string t302, .bool false]) ?_ 3 _ rfl; (with_reducible repeat (first | refine blk_drewN ?_ _ | refine blk_drew ?_ | refine blk_alloc ?_ _)); refine blk_put (cs := #[.int .i64 t300, .int .i64 t301, .string (⟨#[]⟩ : ByteArray), .bool false]) ?_ 2 _ rfl; (with_reducible repeat (first | refine blk_drewN ?_ _ | refine blk_drew ?_ | refine blk_alloc ?_ _)); refine blk_put (cs := #[.int .i64 t300, .int .i64 0, .string (⟨#[]⟩ : ByteArray), .bool false]) ?_ 1 _ rfl; (with_reducible repeat (first | refine blk_drewN ?_ _ | refine blk_drew ?_ | refine blk_alloc ?_ _)); refine blk_put (cs := #[.int .i64 0, .int .i64 0, .string (⟨#[]⟩ : ByteArray), .bool false]) ?_ 0 _ rfl; (with_reducible repeat (first | refine blk_drewN ?_ _ | refine blk_drew ?_ | refine blk_alloc ?_ _)); exact BK304.out) hb); replace HB := bsA HB hb; (try clear hb); (try clear hb2); (try clear hk); (try clear hi); have hcz94_0 : w93.cell? ⟨gb304, 0, none⟩ = some (.int .i64 t300) := (blk_cell BK304.out 0).trans rfl; have hcz94_1 : w93.cell? ⟨gb304, 1, none⟩ = some (.int .i64 t301) := (blk_cell BK304.out 1).trans rfl; have hcz94_2 : w93.cell? ⟨gb304, 2, none⟩ = some (.string t302) := (blk_cell BK304.out 2).trans rfl; have hcz94_3 : w93.cell? ⟨gb304, 3, none⟩ = some (.bool t303) := (blk_cell BK304.out 3).trans rfl; have hfz94_0 := blk_frozen BK304.out 0; have hfz94_1 := blk_frozen BK304.out 1; have hfz94_2 := blk_frozen BK304.out 2; have hfz94_3 := blk_frozen BK304.out 3; have hcz95_0 : w93.cell? ⟨gb299, 0, none⟩ = some (.int .i64 0) := (blk_cell BK299.out 0).trans rfl; have hcz95_1 : w93.cell? ⟨gb299, 1, none⟩ = some (.int .i64 0) := (blk_cell BK299.out 1).trans rfl; have hcz95_2 : w93.cell? ⟨gb299, 2, none⟩ = some (.string (⟨#[]⟩ : ByteArray)) := (blk_cell BK299.out 2).trans rfl; have hcz95_3 : w93.cell? ⟨gb299, 3, none⟩ = some (.bool false) := (blk_cell BK299.out 3).trans rfl; have hfz95_0 := blk_frozen BK299.out 0; have hfz95_1 := blk_frozen BK299.out 1; have hfz95_2 := blk_frozen BK299.out 2; have hfz95_3 := blk_frozen BK299.out 3))
                    refine bodyPost_ret (results_ct rfl _ _ gb299 27 #[.int .i64 t300, .int .i64 t301, .string t302, .bool t303] (0, 0) _ rfl (by (with_reducible repeat (first | refine blk_drewN ?_ _ | refine blk_drew ?_ | refine blk_alloc ?_ _)); refine blk_put (cs := #[.int .i64 t300, .int .i64 t301, .string t302, .bool false]) ?_ 3 _ rfl; (with_reducible repeat (first | refine blk_drewN ?_ _ | refine blk_drew ?_ | refine blk_alloc ?_ _)); refine blk_put (cs := #[.int .i64 t300, .int .i64 t301, .string (⟨#[]⟩ : ByteArray), .bool false]) ?_ 2 _ rfl; (with_reducible repeat (first | refine blk_drewN ?_ _ | refine blk_drew ?_ | refine blk_alloc ?_ _)); refine blk_put (cs := #[.int .i64 t300, .int .i64 0, .string (⟨#[]⟩ : ByteArray), .bool false]) ?_ 1 _ rfl; (with_reducible repeat (first | refine blk_drewN ?_ _ | refine blk_drew ?_ | refine blk_alloc ?_ _)); refine blk_put (cs := #[.int .i64 0, .int .i64 0, .string (⟨#[]⟩ : ByteArray), .bool false]) ?_ 0 _ rfl; (with_reducible repeat (first | refine blk_drewN ?_ _ | refine blk_drew ?_ | refine blk_alloc ?_ _)); exact BK299.out) Tryz.underlying27 rfl (by kernel_rfl)) rfl ?_
                    exact ⟨by first | rfl | (simp [errW_none, errW_some] <;> rfl) | (simp [*, errW_none, errW_some] <;> rfl), hbT HB.out⟩
                  · rw [if_neg c88] at H
                    have c88b0 : (t315.toList == a0.toList) = false := beq_eq_false_iff_ne.mpr c88
                    have c88b1 : (t315.toList != a0.toList) = true := bne_iff_ne.mpr c88
                    simp only [Option.some.injEq, Prod.mk.injEq] at H
                    obtain ⟨rfl, rfl, rfl, rfl, rfl⟩ := H
                    go_wp2_with (first | ((with_reducible refine gate_callee (f := 30) rfl ?_); refine goesT (some 16) Tryz.func30 #[.string a0] ?_; (with_reducible refine (refrainref1_guessed.calls kj1 a0 t300 t301 t302 t303 _ A7.out).mono ?_); rintro e w96 ⟨rfl, hb⟩; refine ⟨_, rfl, ?_⟩; replace BK299 := bbA BK299 hb; replace HB := bsA HB hb; (try clear hb); (try clear hb2); (try clear hk); (try clear hi)) | ((with_reducible refine gate_dst (N := 4) rfl ?_); refine box_event ?hg (N := 4) ?hd (cs := #[.int .i64 0, .int .i64 0, .string (⟨#[]⟩ : ByteArray), .bool false]) (t := 27) ?hr ?_; (case hd => rfl); (case hg => rfl); (case hr => first | (go_simp; done) | (go_simp; rfl)); intro gb304 hg w97 hbox hb; have BK304 := Aside0.mk hbox; have GW304 := geA hg HB; have GE304 := geA hg HB; have NB299_304 := neA hg BK299; have NB304_299 := neB hg BK299; replace BK299 := bbA BK299 hb; replace HB := bsA HB hb; clear hb hbox hg; have hnb98 := NB304_299.out; have hnc98 := NB299_304.out; have hcz99_0 : w97.cell? ⟨gb304, 0, none⟩ = some (.int .i64 0) := (blk_cell BK304.out 0).trans rfl; have hcz99_1 : w97.cell? ⟨gb304, 1, none⟩ = some (.int .i64 0) := (blk_cell BK304.out 1).trans rfl; have hcz99_2 : w97.cell? ⟨gb304, 2, none⟩ = some (.string (⟨#[]⟩ : ByteArray)) := (blk_cell BK304.out 2).trans rfl; have hcz99_3 : w97.cell? ⟨gb304, 3, none⟩ = some (.bool false) := (blk_cell BK304.out 3).trans rfl; have hfz99_0 := blk_frozen BK304.out 0; have hfz99_1 := blk_frozen BK304.out 1; have hfz99_2 := blk_frozen BK304.out 2; have hfz99_3 := blk_frozen BK304.out 3; have p9 : 0 ≤ (0 : Int) := (by omega); have q9 : 0 < a0.size := (by have : (0 : Int) < (a0.size : Int) := of_decide_eq_true (by first | (with_reducible assumption) | assumption); omega); have hx9 : ∀ h : 0 < a0.size, ((a0[0]'h).toNat : Int) = bt a0 0 := bt_at a0 0; clear p9; have qi9 : (0 < (a0.size : Int)) = True := eq_true (of_decide_eq_true (by first | (with_reducible assumption) | assumption)); replace q9 := eq_true q9) | ((with_reducible refine gate_callee (f := 11) rfl ?_); refine goesT (some 31) Tryz.func11 #[.agg #[.int .i64 t300, .int .i64 t301, .string t302, .bool t303]] ?_; (with_reducible refine (refrainref1_Show.calls kj1 t300 t301 t302 t303 t315 t316 _ A86.out).mono ?_); rintro e w100 ⟨rfl, hb⟩; refine ⟨_, rfl, ?_⟩; replace BK299 := Aside0.mk (blk_below (g := gb299) (o := .cells #[.int .i64 0, .int .i64 0, .string (⟨#[]⟩ : ByteArray), .bool false] 27 (0, 0)) (by (with_reducible repeat (first | refine blk_drewN ?_ _ | refine blk_drew ?_ | refine blk_alloc ?_ _)); refine blk_far ?_ NB299_304.out _; (with_reducible repeat (first | refine blk_drewN ?_ _ | refine blk_drew ?_ | refine blk_alloc ?_ _)); refine blk_far ?_ NB299_304.out _; (with_reducible repeat (first | refine blk_drewN ?_ _ | refine blk_drew ?_ | refine blk_alloc ?_ _)); refine blk_far ?_ NB299_304.out _; (with_reducible repeat (first | refine blk_drewN ?_ _ | refine blk_drew ?_ | refine blk_alloc ?_ _)); refine blk_far ?_ NB299_304.out _; (with_reducible repeat (first | refine blk_drewN ?_ _ | refine blk_drew ?_ | refine blk_alloc ?_ _)); exact BK299.out) hb); replace BK304 := Aside0.mk (blk_below (g := gb304) (o := .cells #[.int .i64 t300, .int .i64 t301, .string t302, .bool t303] 27 (0, 0)) (by (with_reducible repeat (first | refine blk_drewN ?_ _ | refine blk_drew ?_ | refine blk_alloc ?_ _)); refine blk_put (cs := #[.int .i64 t300, .int .i64 t301, .string t302, .bool false]) ?_ 3 _ rfl; (with_reducible repeat (first | refine blk_drewN ?_ _ | refine blk_drew ?_ | refine blk_alloc ?_ _)); refine blk_put (cs := #[.int .i64 t300, .int .i64 t301, .string (⟨#[]⟩ : ByteArray), .bool false]) ?_ 2 _ rfl; (with_reducible repeat (first | refine blk_drewN ?_ _ | refine blk_drew ?_ | refine blk_alloc ?_ _)); refine blk_put (cs := #[.int .i64 t300, .int .i64 0, .string (⟨#[]⟩ : ByteArray), .bool false]) ?_ 1 _ rfl; (with_reducible repeat (first | refine blk_drewN ?_ _ | refine blk_drew ?_ | refine blk_alloc ?_ _)); refine blk_put (cs := #[.int .i64 0, .int .i64 0, .string (⟨#[]⟩ : ByteArray), .bool false]) ?_ 0 _ rfl; (with_reducible repeat (first | refine blk_drewN ?_ _ | refine blk_drew ?_ | refine blk_alloc ?_ _)); exact BK304.out) hb); replace HB := bsA HB hb; (try clear hb); (try clear hb2); (try clear hk); (try clear hi); have hcz101_0 : w100.cell? ⟨gb299, 0, none⟩ = some (.int .i64 0) := (blk_cell BK299.out 0).trans rfl; have hcz101_1 : w100.cell? ⟨gb299, 1, none⟩ = some (.int .i64 0) := (blk_cell BK299.out 1).trans rfl; have hcz101_2 : w100.cell? ⟨gb299, 2, none⟩ = some (.string (⟨#[]⟩ : ByteArray)) := (blk_cell BK299.out 2).trans rfl; have hcz101_3 : w100.cell? ⟨gb299, 3, none⟩ = some (.bool false) := (blk_cell BK299.out 3).trans rfl; have hfz101_0 := blk_frozen BK299.out 0; have hfz101_1 := blk_frozen BK299.out 1; have hfz101_2 := blk_frozen BK299.out 2; have hfz101_3 := blk_frozen BK299.out 3))
                    refine bodyPost_ret (results_ct rfl _ _ gb299 27 #[.int .i64 0, .int .i64 0, .string (⟨#[]⟩ : ByteArray), .bool false] (0, 0) _ rfl (by (with_reducible repeat (first | refine blk_drewN ?_ _ | refine blk_drew ?_ | refine blk_alloc ?_ _)); refine blk_put (cs := #[.int .i64 0, .int .i64 0, .string (⟨#[]⟩ : ByteArray), .bool false]) ?_ 3 _ rfl; (with_reducible repeat (first | refine blk_drewN ?_ _ | refine blk_drew ?_ | refine blk_alloc ?_ _)); refine blk_put (cs := #[.int .i64 0, .int .i64 0, .string (⟨#[]⟩ : ByteArray), .bool false]) ?_ 2 _ rfl; (with_reducible repeat (first | refine blk_drewN ?_ _ | refine blk_drew ?_ | refine blk_alloc ?_ _)); refine blk_put (cs := #[.int .i64 0, .int .i64 0, .string (⟨#[]⟩ : ByteArray), .bool false]) ?_ 1 _ rfl; (with_reducible repeat (first | refine blk_drewN ?_ _ | refine blk_drew ?_ | refine blk_alloc ?_ _)); refine blk_put (cs := #[.int .i64 0, .int .i64 0, .string (⟨#[]⟩ : ByteArray), .bool false]) ?_ 0 _ rfl; (with_reducible repeat (first | refine blk_drewN ?_ _ | refine blk_drew ?_ | refine blk_alloc ?_ _)); exact BK299.out) Tryz.underlying27 rfl (by kernel_rfl)) rfl ?_
                    exact ⟨by first | rfl | (simp [errW_none, errW_some] <;> rfl) | (simp [*, errW_none, errW_some] <;> rfl), hbT HB.out⟩
                · rw [if_neg c87] at H
                  have c87b0 : (t316 == 0) = false := beq_eq_false_iff_ne.mpr c87
                  have c87b1 : (t316 != 0) = true := bne_iff_ne.mpr c87
                  simp only [Option.some.injEq, Prod.mk.injEq] at H
                  obtain ⟨rfl, rfl, rfl, rfl, rfl⟩ := H
                  go_wp2_with (first | ((with_reducible refine gate_callee (f := 30) rfl ?_); refine goesT (some 16) Tryz.func30 #[.string a0] ?_; (with_reducible refine (refrainref1_guessed.calls kj1 a0 t300 t301 t302 t303 _ A7.out).mono ?_); rintro e w102 ⟨rfl, hb⟩; refine ⟨_, rfl, ?_⟩; replace BK299 := bbA BK299 hb; replace HB := bsA HB hb; (try clear hb); (try clear hb2); (try clear hk); (try clear hi)) | ((with_reducible refine gate_dst (N := 4) rfl ?_); refine box_event ?hg (N := 4) ?hd (cs := #[.int .i64 0, .int .i64 0, .string (⟨#[]⟩ : ByteArray), .bool false]) (t := 27) ?hr ?_; (case hd => rfl); (case hg => rfl); (case hr => first | (go_simp; done) | (go_simp; rfl)); intro gb304 hg w103 hbox hb; have BK304 := Aside0.mk hbox; have GW304 := geA hg HB; have GE304 := geA hg HB; have NB299_304 := neA hg BK299; have NB304_299 := neB hg BK299; replace BK299 := bbA BK299 hb; replace HB := bsA HB hb; clear hb hbox hg; have hnb104 := NB304_299.out; have hnc104 := NB299_304.out; have hcz105_0 : w103.cell? ⟨gb304, 0, none⟩ = some (.int .i64 0) := (blk_cell BK304.out 0).trans rfl; have hcz105_1 : w103.cell? ⟨gb304, 1, none⟩ = some (.int .i64 0) := (blk_cell BK304.out 1).trans rfl; have hcz105_2 : w103.cell? ⟨gb304, 2, none⟩ = some (.string (⟨#[]⟩ : ByteArray)) := (blk_cell BK304.out 2).trans rfl; have hcz105_3 : w103.cell? ⟨gb304, 3, none⟩ = some (.bool false) := (blk_cell BK304.out 3).trans rfl; have hfz105_0 := blk_frozen BK304.out 0; have hfz105_1 := blk_frozen BK304.out 1; have hfz105_2 := blk_frozen BK304.out 2; have hfz105_3 := blk_frozen BK304.out 3; have p9 : 0 ≤ (0 : Int) := (by omega); have q9 : 0 < a0.size := (by have : (0 : Int) < (a0.size : Int) := of_decide_eq_true (by first | (with_reducible assumption) | assumption); omega); have hx9 : ∀ h : 0 < a0.size, ((a0[0]'h).toNat : Int) = bt a0 0 := bt_at a0 0; clear p9; have qi9 : (0 < (a0.size : Int)) = True := eq_true (of_decide_eq_true (by first | (with_reducible assumption) | assumption)); replace q9 := eq_true q9) | ((with_reducible refine gate_callee (f := 11) rfl ?_); refine goesT (some 31) Tryz.func11 #[.agg #[.int .i64 t300, .int .i64 t301, .string t302, .bool t303]] ?_; (with_reducible refine (refrainref1_Show.calls kj1 t300 t301 t302 t303 t315 t316 _ A86.out).mono ?_); rintro e w106 ⟨rfl, hb⟩; refine ⟨_, rfl, ?_⟩; replace BK299 := Aside0.mk (blk_below (g := gb299) (o := .cells #[.int .i64 0, .int .i64 0, .string (⟨#[]⟩ : ByteArray), .bool false] 27 (0, 0)) (by (with_reducible repeat (first | refine blk_drewN ?_ _ | refine blk_drew ?_ | refine blk_alloc ?_ _)); refine blk_far ?_ NB299_304.out _; (with_reducible repeat (first | refine blk_drewN ?_ _ | refine blk_drew ?_ | refine blk_alloc ?_ _)); refine blk_far ?_ NB299_304.out _; (with_reducible repeat (first | refine blk_drewN ?_ _ | refine blk_drew ?_ | refine blk_alloc ?_ _)); refine blk_far ?_ NB299_304.out _; (with_reducible repeat (first | refine blk_drewN ?_ _ | refine blk_drew ?_ | refine blk_alloc ?_ _)); refine blk_far ?_ NB299_304.out _; (with_reducible repeat (first | refine blk_drewN ?_ _ | refine blk_drew ?_ | refine blk_alloc ?_ _)); exact BK299.out) hb); replace BK304 := Aside0.mk (blk_below (g := gb304) (o := .cells #[.int .i64 t300, .int .i64 t301, .string t302, .bool t303] 27 (0, 0)) (by (with_reducible repeat (first | refine blk_drewN ?_ _ | refine blk_drew ?_ | refine blk_alloc ?_ _)); refine blk_put (cs := #[.int .i64 t300, .int .i64 t301, .string t302, .bool false]) ?_ 3 _ rfl; (with_reducible repeat (first | refine blk_drewN ?_ _ | refine blk_drew ?_ | refine blk_alloc ?_ _)); refine blk_put (cs := #[.int .i64 t300, .int .i64 t301, .string (⟨#[]⟩ : ByteArray), .bool false]) ?_ 2 _ rfl; (with_reducible repeat (first | refine blk_drewN ?_ _ | refine blk_drew ?_ | refine blk_alloc ?_ _)); refine blk_put (cs := #[.int .i64 t300, .int .i64 0, .string (⟨#[]⟩ : ByteArray), .bool false]) ?_ 1 _ rfl; (with_reducible repeat (first | refine blk_drewN ?_ _ | refine blk_drew ?_ | refine blk_alloc ?_ _)); refine blk_put (cs := #[.int .i64 0, .int .i64 0, .string (⟨#[]⟩ : ByteArray), .bool false]) ?_ 0 _ rfl; (with_reducible repeat (first | refine blk_drewN ?_ _ | refine blk_drew ?_ | refine blk_alloc ?_ _)); exact BK304.out) hb); replace HB := bsA HB hb; (try clear hb); (try clear hb2); (try clear hk); (try clear hi); have hcz107_0 : w106.cell? ⟨gb299, 0, none⟩ = some (.int .i64 0) := (blk_cell BK299.out 0).trans rfl; have hcz107_1 : w106.cell? ⟨gb299, 1, none⟩ = some (.int .i64 0) := (blk_cell BK299.out 1).trans rfl; have hcz107_2 : w106.cell? ⟨gb299, 2, none⟩ = some (.string (⟨#[]⟩ : ByteArray)) := (blk_cell BK299.out 2).trans rfl; have hcz107_3 : w106.cell? ⟨gb299, 3, none⟩ = some (.bool false) := (blk_cell BK299.out 3).trans rfl; have hfz107_0 := blk_frozen BK299.out 0; have hfz107_1 := blk_frozen BK299.out 1; have hfz107_2 := blk_frozen BK299.out 2; have hfz107_3 := blk_frozen BK299.out 3))
                  refine bodyPost_ret (results_ct rfl _ _ gb299 27 #[.int .i64 0, .int .i64 0, .string (⟨#[]⟩ : ByteArray), .bool false] (0, 0) _ rfl (by (with_reducible repeat (first | refine blk_drewN ?_ _ | refine blk_drew ?_ | refine blk_alloc ?_ _)); refine blk_put (cs := #[.int .i64 0, .int .i64 0, .string (⟨#[]⟩ : ByteArray), .bool false]) ?_ 3 _ rfl; (with_reducible repeat (first | refine blk_drewN ?_ _ | refine blk_drew ?_ | refine blk_alloc ?_ _)); refine blk_put (cs := #[.int .i64 0, .int .i64 0, .string (⟨#[]⟩ : ByteArray), .bool false]) ?_ 2 _ rfl; (with_reducible repeat (first | refine blk_drewN ?_ _ | refine blk_drew ?_ | refine blk_alloc ?_ _)); refine blk_put (cs := #[.int .i64 0, .int .i64 0, .string (⟨#[]⟩ : ByteArray), .bool false]) ?_ 1 _ rfl; (with_reducible repeat (first | refine blk_drewN ?_ _ | refine blk_drew ?_ | refine blk_alloc ?_ _)); refine blk_put (cs := #[.int .i64 0, .int .i64 0, .string (⟨#[]⟩ : ByteArray), .bool false]) ?_ 0 _ rfl; (with_reducible repeat (first | refine blk_drewN ?_ _ | refine blk_drew ?_ | refine blk_alloc ?_ _)); exact BK299.out) Tryz.underlying27 rfl (by kernel_rfl)) rfl ?_
                  exact ⟨by first | rfl | (simp [errW_none, errW_some] <;> rfl) | (simp [*, errW_none, errW_some] <;> rfl), hbT HB.out⟩
        · rw [if_neg c8] at H
          exact absurd H (by simp)

/-! ### refrainref1_sign: function 37 -/
def refrainref1_sign.f (a0 : Int) (a1 : Int) : Option (Int) := if a0 < a1 then (some (-1)) else (if a0 > a1 then (some 1) else (some 0))
set_option maxHeartbeats 8000000 in
set_option maxRecDepth 100000 in
theorem refrainref1_sign.calls (a0 : Int) (a1 : Int) (r : Int) (w : World) (h : refrainref1_sign.f a0 a1 = some r) :
    Calls Tryz.prog 37 #[.int .i64 a0, .int .i64 a1] w fun e w' => e = .returned (.int .i64 r) ∧ Drawn0 w w' := by
  have H : (if a0 < a1 then (some (-1)) else (if a0 > a1 then (some 1) else (some 0))) = some r := h
  clear h
  by_cases c3 : a0 < a1
  · rw [if_pos c3] at H
    have c3b0 : decide (a0 < a1) = true := decide_eq_true c3
    clear c3
    obtain rfl := Option.some.inj H
    go_enter Tryz.func37, Tryz.ntmps37
    go_wp2
    go_ret
    exact ⟨by first | rfl | (simp; done) | (simp [*]; done) | (simp; unfold wrap64; omega) | (congr 1; (try rw [Bool.eq_iff_iff]); simp [List.isEmpty_iff]; done), by repeat (first | exact Drawn0.refl _ | apply Drawn0.step)⟩
  · rw [if_neg c3] at H
    have c3b0 : decide (a0 < a1) = false := decide_eq_false c3
    clear c3
    by_cases c4 : a0 > a1
    · rw [if_pos c4] at H
      have c4b0 : decide (a1 < a0) = true := decide_eq_true c4
      clear c4
      obtain rfl := Option.some.inj H
      go_enter Tryz.func37, Tryz.ntmps37
      go_wp2
      go_ret
      exact ⟨by first | rfl | (simp; done) | (simp [*]; done) | (simp; unfold wrap64; omega) | (congr 1; (try rw [Bool.eq_iff_iff]); simp [List.isEmpty_iff]; done), by repeat (first | exact Drawn0.refl _ | apply Drawn0.step)⟩
    · rw [if_neg c4] at H
      have c4b0 : decide (a1 < a0) = false := decide_eq_false c4
      clear c4
      obtain rfl := Option.some.inj H
      go_enter Tryz.func37, Tryz.ntmps37
      go_wp2
      go_ret
      exact ⟨by first | rfl | (simp; done) | (simp [*]; done) | (simp; unfold wrap64; omega) | (congr 1; (try rw [Bool.eq_iff_iff]); simp [List.isEmpty_iff]; done), by repeat (first | exact Drawn0.refl _ | apply Drawn0.step)⟩

end Go.Proofs.YthhpeeckiggpaaaGreatDoor.Pr

/-
Part 10 of the proof of the law CsvTwo: texts Prx11, ExtRe, ExtRr.
-/
import Derived.Deep.DrawnRows
import Derived.Deep.RegionHeld3
import Derived.IntWalk
import Derived.Test.YtpkbhfdfgapmlaaGreatDoorMCsvTwo0
import Derived.Test.YtpkbhfdfgapmlaaGreatDoorMCsvTwo6
import Derived.Test.YtpkbhfdfgapmlaaGreatDoorMCsvTwo9
/-! ## text Prx11 -/
section
namespace Go.Proofs.YtpkbhfdfgapmlaaGreatDoor.Pr
open Go.RowKit Go.Proofs.YtpkbhfdfgapmlaaGreatDoorW.PrintWords Go.Proofs.YtpkbhfdfgapmlaaGreatDoorW.PrintLast Go.Proofs.YtpkbhfdfgapmlaaGreatDoorW.PrintMore
attribute [local go_sem] max2_int min2_int max_two min_two max_three min_three max_four min_four   -- for this text's walks alone
attribute [local go_sem high] Go.Proofs.YtpkbhfdfgapmlaaGreatDoor.isSome_setCell
set_option maxRecDepth 100000
set_option linter.unusedVariables false
set_option linter.unusedSimpArgs false

theorem bfT2 {w W : World} {g g' : Nat} {o : Obj} (hne : g ≠ g') (h : w.heap[g]? = some o) (k : g ≠ g' → w.heap[g]? = some o → W.heap[g]? = some o := by intro n_ h_; repeat (first | (with_reducible exact h_) | (with_reducible refine blk_far ?_ n_ _) | (with_reducible refine blk_drewN ?_ _) | (with_reducible refine blk_drew ?_) | (with_reducible refine blk_alloc ?_ _) | exact h_ | refine blk_far ?_ n_ _ | refine blk_drewN ?_ _ | refine blk_drew ?_ | refine blk_alloc ?_ _)) : W.heap[g]? = some o := k hne h
/-! ### refrainref1_Read: function 30 -/
def refrainref1_Read.j0 : Nat → ByteArray → Bool → Option (Int × Int × ByteArray × Bool × Int)
  | 0, _, _ => none
  | k + 1, x0, x13 => if x13 = true then (some (0, 0, (⟨#[]⟩ : ByteArray), false, 12)) else ((refrainref1_guessed.f k x0).bind fun bt256 => (if 0 < (x0.size : Int) then (if (bt x0 0) = 34 then ((refrainref1_unquoted.f k x0).bind fun bt261 => ((refrainref1_Show.f k bt261.1 bt261.2.1 bt261.2.2.1 bt261.2.2.2).bind fun bt265 => (if bt265.2 = 0 then (if bt265.1.toList = x0.toList then (some (bt261.1, bt261.2.1, bt261.2.2.1, bt261.2.2.2, 0)) else (some (0, 0, (⟨#[]⟩ : ByteArray), false, 12))) else (some (0, 0, (⟨#[]⟩ : ByteArray), false, 12))))) else (if (bt x0 0) = 84 then ((refrainref1_Show.f k 3 0 (⟨#[]⟩ : ByteArray) true).bind fun bt267 => (if bt267.2 = 0 then (if bt267.1.toList = x0.toList then (some (3, 0, (⟨#[]⟩ : ByteArray), true, 0)) else (some (0, 0, (⟨#[]⟩ : ByteArray), false, 12))) else (some (0, 0, (⟨#[]⟩ : ByteArray), false, 12)))) else (if (bt x0 0) = 70 then ((refrainref1_Show.f k 3 0 (⟨#[]⟩ : ByteArray) false).bind fun bt269 => (if bt269.2 = 0 then (if bt269.1.toList = x0.toList then (some (3, 0, (⟨#[]⟩ : ByteArray), false, 0)) else (some (0, 0, (⟨#[]⟩ : ByteArray), false, 12))) else (some (0, 0, (⟨#[]⟩ : ByteArray), false, 12)))) else ((refrainref1_Show.f k bt256.1 bt256.2.1 bt256.2.2.1 bt256.2.2.2).bind fun bt271 => (if bt271.2 = 0 then (if bt271.1.toList = x0.toList then (some (bt256.1, bt256.2.1, bt256.2.2.1, bt256.2.2.2, 0)) else (some (0, 0, (⟨#[]⟩ : ByteArray), false, 12))) else (some (0, 0, (⟨#[]⟩ : ByteArray), false, 12))))))) else (none)))
def refrainref1_Read.f (k : Nat) (a0 : ByteArray) : Option (Int × Int × ByteArray × Bool × Int) := if (a0.size : Int) > 1026 then (refrainref1_Read.j0 k a0 true) else (refrainref1_Read.j0 k a0 (a0.toList == ([] : List UInt8)))
set_option maxRecDepth 100000 in
theorem refrainref1_Read.j0_zero : ∀ y0 y1, refrainref1_Read.j0 0 y0 y1 = none := fun _ _ => rfl
set_option maxRecDepth 100000 in
theorem refrainref1_Read.mono_l : ∀ k, (∀ y0 y1, LeO (refrainref1_Read.j0 k y0 y1) (refrainref1_Read.j0 (k + 1) y0 y1))
  | 0 => fun _ _ r h => by (unfold refrainref1_Read.j0 at h; cases h)
  | k + 1 => by
    have ih0 := refrainref1_Read.mono_l k
    · intro y0 y1
      unfold refrainref1_Read.j0
      repeat' first
      | (with_reducible exact ih0 _ _)
      | (with_reducible exact refrainref1_Show.mono _ _ _ _ _)
      | (with_reducible exact refrainref1_guessed.mono _ _)
      | (with_reducible exact refrainref1_unquoted.mono _ _)
      | (with_reducible exact LeO.refl _)
      | (with_reducible exact LeO.none _)
      | (with_reducible refine LeO.ite ?_ ?_)
      | (with_reducible refine LeO.bind ?_ (fun _ => ?_))
      | exact ih0 _ _
      | exact refrainref1_Show.mono _ _ _ _ _
      | exact refrainref1_guessed.mono _ _
      | exact refrainref1_unquoted.mono _ _
      | exact LeO.none _
      | refine LeO.ite ?_ ?_
      | refine LeO.bind ?_ (fun _ => ?_)
set_option maxRecDepth 100000 in
theorem refrainref1_Read.mono : ∀ a0 k, LeO (refrainref1_Read.f k a0) (refrainref1_Read.f (k + 1) a0) := by
  intro a0 k
  have ih0 := refrainref1_Read.mono_l k
  unfold refrainref1_Read.f
  repeat' first
      | (with_reducible exact ih0 _ _)
      | (with_reducible exact refrainref1_Show.mono _ _ _ _ _)
      | (with_reducible exact refrainref1_guessed.mono _ _)
      | (with_reducible exact refrainref1_unquoted.mono _ _)
      | (with_reducible exact LeO.refl _)
      | (with_reducible exact LeO.none _)
      | (with_reducible refine LeO.ite ?_ ?_)
      | (with_reducible refine LeO.bind ?_ (fun _ => ?_))
      | exact ih0 _ _
      | exact refrainref1_Show.mono _ _ _ _ _
      | exact refrainref1_guessed.mono _ _
      | exact refrainref1_unquoted.mono _ _
      | exact LeO.none _
      | refine LeO.ite ?_ ?_
      | refine LeO.bind ?_ (fun _ => ?_)
set_option maxHeartbeats 8000000 in
set_option maxRecDepth 100000 in
theorem refrainref1_Read.calls (k : Nat) (a0 : ByteArray) (r1 : Int) (r2 : Int) (r3 : ByteArray) (r4 : Bool) (r5 : Int) (w : World) (h : refrainref1_Read.f k a0 = some (r1, r2, r3, r4, r5)) :
    Calls Tryz.prog 30 #[.string a0] w fun e w' => e = .returned (.tuple #[.agg #[.int .i64 r1, .int .i64 r2, .string r3, .bool r4], .int .i64 r5]) ∧ Below w.heap.size w w' := by
  have hu43 := Tryz.underlying43
  have HB := Aside0.mk (Below.refl w.heap.size w)
  have H : (if (a0.size : Int) > 1026 then (refrainref1_Read.j0 k a0 true) else (refrainref1_Read.j0 k a0 (a0.toList == ([] : List UInt8)))) = some (r1, r2, r3, r4, r5) := h
  clear h
  have HC2 := Aside0.mk H
  clear H
  go_enter Tryz.func30, Tryz.ntmps30
  go_upto_region 1 with (first | ((with_reducible refine gate_dst (N := 2) rfl ?_); refine box_event ?hg (N := 2) ?hd (cs := #[.int .i64 0, .int .i64 0, .string (⟨#[]⟩ : ByteArray), .bool false]) (t := 43) ?hr ?_; (case hd => rfl); (case hg => rfl); (case hr => first | (go_simp; done) | (go_simp; rfl)); intro gb255 hg w3 hbox hb; have BK255 := Aside0.mk hbox; have GW255 := geA hg HB; have GE255 := geA hg HB; replace HB := bsA HB hb; clear hb hbox hg))
  (try simp only [Act.put, List.setIfInBounds_toArray, List.set_cons_zero, List.set_cons_succ])
  go_cut [13] (fun v13 wc => ∃ (kq : Nat) (x13_1 : Bool), v13 = .bool x13_1 ∧ Aside0 (refrainref1_Read.j0 kq a0 x13_1 = some (r1, r2, r3, r4, r5)) ∧ Aside0 (kq ≤ k) ∧ Aside0 (wc.heap[gb255]? = some (.cells #[.int .i64 0, .int .i64 0, .string (⟨#[]⟩ : ByteArray), .bool false] 43 (0, 0))) ∧ Aside0 (Below w.heap.size w wc))
  case first =>
    have H := HC2.out
    clear HC2
    by_cases c4 : (a0.size : Int) > 1026
    · rw [if_pos c4] at H
      have c4b0 : decide (1026 < (a0.size : Int)) = true := decide_eq_true c4
      have c4b1 : decide (1026 < a0.size) = true := decide_eq_true (by omega)
      clear c4
      (first | rw [c4b0] | (simp only [i64_w, i32_w, IntKind.wrap_u8, IntKind.wrap_u16, IntKind.wrap_u32]; rw [c4b0]) | skip)
      have H' := Aside0.mk H
      clear H
      go_wp2
      go_meet
      case rel => exact ⟨_, (true), (by first | rfl | (simp; done) | (simp [*]; done) | (simp; unfold wrap64; omega) | (congr 1; (try rw [Bool.eq_iff_iff]); simp [List.isEmpty_iff]; done)), H', ⟨by first | omega | exact Nat.le_refl _⟩, ⟨bkT BK255.out⟩, ⟨hbT HB.out⟩⟩
    · rw [if_neg c4] at H
      have c4b0 : decide (1026 < (a0.size : Int)) = false := decide_eq_false c4
      have c4b1 : decide (1026 < a0.size) = false := decide_eq_false (by omega)
      clear c4
      (first | rw [c4b0] | (simp only [i64_w, i32_w, IntKind.wrap_u8, IntKind.wrap_u16, IntKind.wrap_u32]; rw [c4b0]) | skip)
      have H' := Aside0.mk H
      clear H
      go_wp2
      go_meet
      case rel => exact ⟨_, ((a0.toList == ([] : List UInt8))), (by first | rfl | (simp; done) | (simp [*]; done) | (simp; unfold wrap64; omega) | (congr 1; (try rw [Bool.eq_iff_iff]); simp [List.isEmpty_iff]; done)), H', ⟨by first | omega | exact Nat.le_refl _⟩, ⟨bkT BK255.out⟩, ⟨hbT HB.out⟩⟩
  case rest =>
    clear HC2
    try clear p2
    try clear c3
    try clear c4
    try clear c4b0
    try clear c4b1
    obtain ⟨kq, x13_1, rfl, HA, HJ1, BK255, HB⟩ := hcut
    cases kq with
    | zero => (have HA2 := HA.out; clear HA; revert HA2; rw [refrainref1_Read.j0_zero]; intro h_; cases h_)
    | succ kj1 =>
      have H := HA.out
      clear HA
      simp only [refrainref1_Read.j0] at H
      by_cases c5 : x13_1 = true
      · subst c5
        have H1 : (some (0, 0, (⟨#[]⟩ : ByteArray), false, 12)) = some (r1, r2, r3, r4, r5) := by rw [if_pos rfl] at H; exact H
        clear H
        have H := H1
        clear H1
        simp only [Option.some.injEq, Prod.mk.injEq] at H
        obtain ⟨rfl, rfl, rfl, rfl, rfl⟩ := H
        have hcz6_0 : wc.cell? ⟨gb255, 0, none⟩ = some (.int .i64 0) := (blk_cell BK255.out 0).trans rfl; have hcz6_1 : wc.cell? ⟨gb255, 1, none⟩ = some (.int .i64 0) := (blk_cell BK255.out 1).trans rfl; have hcz6_2 : wc.cell? ⟨gb255, 2, none⟩ = some (.string (⟨#[]⟩ : ByteArray)) := (blk_cell BK255.out 2).trans rfl; have hcz6_3 : wc.cell? ⟨gb255, 3, none⟩ = some (.bool false) := (blk_cell BK255.out 3).trans rfl; have hfz6_0 := blk_frozen BK255.out 0; have hfz6_1 := blk_frozen BK255.out 1; have hfz6_2 := blk_frozen BK255.out 2; have hfz6_3 := blk_frozen BK255.out 3
        go_wp2
        refine bodyPost_ret (results_ct rfl _ _ gb255 43 #[.int .i64 0, .int .i64 0, .string (⟨#[]⟩ : ByteArray), .bool false] (0, 0) _ rfl (by (with_reducible repeat (first | refine blk_drewN ?_ _ | refine blk_drew ?_ | refine blk_alloc ?_ _)); refine blk_put (cs := #[.int .i64 0, .int .i64 0, .string (⟨#[]⟩ : ByteArray), .bool false]) ?_ 3 _ rfl; (with_reducible repeat (first | refine blk_drewN ?_ _ | refine blk_drew ?_ | refine blk_alloc ?_ _)); refine blk_put (cs := #[.int .i64 0, .int .i64 0, .string (⟨#[]⟩ : ByteArray), .bool false]) ?_ 2 _ rfl; (with_reducible repeat (first | refine blk_drewN ?_ _ | refine blk_drew ?_ | refine blk_alloc ?_ _)); refine blk_put (cs := #[.int .i64 0, .int .i64 0, .string (⟨#[]⟩ : ByteArray), .bool false]) ?_ 1 _ rfl; (with_reducible repeat (first | refine blk_drewN ?_ _ | refine blk_drew ?_ | refine blk_alloc ?_ _)); refine blk_put (cs := #[.int .i64 0, .int .i64 0, .string (⟨#[]⟩ : ByteArray), .bool false]) ?_ 0 _ rfl; (with_reducible repeat (first | refine blk_drewN ?_ _ | refine blk_drew ?_ | refine blk_alloc ?_ _)); exact BK255.out) Tryz.underlying43 rfl (by kernel_rfl)) rfl ?_
        exact ⟨by first | rfl | (simp [errW_none, errW_some] <;> rfl) | (simp [*, errW_none, errW_some] <;> rfl), hbT HB.out⟩
      · replace c5 := Bool.eq_false_iff.mpr c5
        subst c5
        have H1 : ((refrainref1_guessed.f kj1 a0).bind fun bt256 => (if 0 < (a0.size : Int) then (if (bt a0 0) = 34 then ((refrainref1_unquoted.f kj1 a0).bind fun bt261 => ((refrainref1_Show.f kj1 bt261.1 bt261.2.1 bt261.2.2.1 bt261.2.2.2).bind fun bt265 => (if bt265.2 = 0 then (if bt265.1.toList = a0.toList then (some (bt261.1, bt261.2.1, bt261.2.2.1, bt261.2.2.2, 0)) else (some (0, 0, (⟨#[]⟩ : ByteArray), false, 12))) else (some (0, 0, (⟨#[]⟩ : ByteArray), false, 12))))) else (if (bt a0 0) = 84 then ((refrainref1_Show.f kj1 3 0 (⟨#[]⟩ : ByteArray) true).bind fun bt267 => (if bt267.2 = 0 then (if bt267.1.toList = a0.toList then (some (3, 0, (⟨#[]⟩ : ByteArray), true, 0)) else (some (0, 0, (⟨#[]⟩ : ByteArray), false, 12))) else (some (0, 0, (⟨#[]⟩ : ByteArray), false, 12)))) else (if (bt a0 0) = 70 then ((refrainref1_Show.f kj1 3 0 (⟨#[]⟩ : ByteArray) false).bind fun bt269 => (if bt269.2 = 0 then (if bt269.1.toList = a0.toList then (some (3, 0, (⟨#[]⟩ : ByteArray), false, 0)) else (some (0, 0, (⟨#[]⟩ : ByteArray), false, 12))) else (some (0, 0, (⟨#[]⟩ : ByteArray), false, 12)))) else ((refrainref1_Show.f kj1 bt256.1 bt256.2.1 bt256.2.2.1 bt256.2.2.2).bind fun bt271 => (if bt271.2 = 0 then (if bt271.1.toList = a0.toList then (some (bt256.1, bt256.2.1, bt256.2.2.1, bt256.2.2.2, 0)) else (some (0, 0, (⟨#[]⟩ : ByteArray), false, 12))) else (some (0, 0, (⟨#[]⟩ : ByteArray), false, 12))))))) else (none))) = some (r1, r2, r3, r4, r5) := by rw [if_neg (show ¬ (false = true) by decide)] at H; exact H
        clear H
        have H := H1
        clear H1
        replace H := Option.bind_eq_some_iff.mp H
        obtain ⟨⟨t256, t257, t258, t259⟩, A70, H⟩ := H
        replace H : (if 0 < (a0.size : Int) then (if (bt a0 0) = 34 then ((refrainref1_unquoted.f kj1 a0).bind fun bt261 => ((refrainref1_Show.f kj1 bt261.1 bt261.2.1 bt261.2.2.1 bt261.2.2.2).bind fun bt265 => (if bt265.2 = 0 then (if bt265.1.toList = a0.toList then (some (bt261.1, bt261.2.1, bt261.2.2.1, bt261.2.2.2, 0)) else (some (0, 0, (⟨#[]⟩ : ByteArray), false, 12))) else (some (0, 0, (⟨#[]⟩ : ByteArray), false, 12))))) else (if (bt a0 0) = 84 then ((refrainref1_Show.f kj1 3 0 (⟨#[]⟩ : ByteArray) true).bind fun bt267 => (if bt267.2 = 0 then (if bt267.1.toList = a0.toList then (some (3, 0, (⟨#[]⟩ : ByteArray), true, 0)) else (some (0, 0, (⟨#[]⟩ : ByteArray), false, 12))) else (some (0, 0, (⟨#[]⟩ : ByteArray), false, 12)))) else (if (bt a0 0) = 70 then ((refrainref1_Show.f kj1 3 0 (⟨#[]⟩ : ByteArray) false).bind fun bt269 => (if bt269.2 = 0 then (if bt269.1.toList = a0.toList then (some (3, 0, (⟨#[]⟩ : ByteArray), false, 0)) else (some (0, 0, (⟨#[]⟩ : ByteArray), false, 12))) else (some (0, 0, (⟨#[]⟩ : ByteArray), false, 12)))) else ((refrainref1_Show.f kj1 t256 t257 t258 t259).bind fun bt271 => (if bt271.2 = 0 then (if bt271.1.toList = a0.toList then (some (t256, t257, t258, t259, 0)) else (some (0, 0, (⟨#[]⟩ : ByteArray), false, 12))) else (some (0, 0, (⟨#[]⟩ : ByteArray), false, 12))))))) else (none)) = some (r1, r2, r3, r4, r5) := H
        have A7 := Aside0.mk A70
        clear A70
        by_cases c8 : 0 < (a0.size : Int)
        · rw [if_pos c8] at H
          have c8b0 : decide (0 < (a0.size : Int)) = true := decide_eq_true c8
          have c8b1 : decide (0 < a0.size) = true := decide_eq_true (by omega)
          clear c8
          by_cases c10 : (bt a0 0) = 34
          · rw [if_pos c10] at H
            have c10b0 : ((bt a0 0) == 34) = true := beq_iff_eq.mpr c10
            have c10b1 : ((bt a0 0) != 34) = false := bne_eq_false_iff_eq.mpr c10
            clear c10
            replace H := Option.bind_eq_some_iff.mp H
            obtain ⟨⟨t261, t262, t263, t264⟩, A110, H⟩ := H
            replace H : ((refrainref1_Show.f kj1 t261 t262 t263 t264).bind fun bt265 => (if bt265.2 = 0 then (if bt265.1.toList = a0.toList then (some (t261, t262, t263, t264, 0)) else (some (0, 0, (⟨#[]⟩ : ByteArray), false, 12))) else (some (0, 0, (⟨#[]⟩ : ByteArray), false, 12)))) = some (r1, r2, r3, r4, r5) := H
            have A11 := Aside0.mk A110
            clear A110
            replace H := Option.bind_eq_some_iff.mp H
            obtain ⟨⟨t265, t266⟩, A120, H⟩ := H
            replace H : (if t266 = 0 then (if t265.toList = a0.toList then (some (t261, t262, t263, t264, 0)) else (some (0, 0, (⟨#[]⟩ : ByteArray), false, 12))) else (some (0, 0, (⟨#[]⟩ : ByteArray), false, 12))) = some (r1, r2, r3, r4, r5) := H
            have A12 := Aside0.mk A120
            clear A120
            by_cases c13 : t266 = 0
            · rw [if_pos c13] at H
              have c13b0 : (t266 == 0) = true := beq_iff_eq.mpr c13
              have c13b1 : (t266 != 0) = false := bne_eq_false_iff_eq.mpr c13
              clear c13
              by_cases c14 : t265.toList = a0.toList
              · rw [if_pos c14] at H
                have c14b0 : (t265.toList == a0.toList) = true := beq_iff_eq.mpr c14
                have c14b1 : (t265.toList != a0.toList) = false := bne_eq_false_iff_eq.mpr c14
                clear c14
                simp only [Option.some.injEq, Prod.mk.injEq] at H
                obtain ⟨rfl, rfl, rfl, rfl, rfl⟩ := H
                go_wp2_with (first | ((with_reducible refine gate_callee (f := 64) rfl ?_); refine goesT (some 16) Tryz.func64 #[.string a0] ?_; (with_reducible refine (refrainref1_guessed.calls kj1 a0 t256 t257 t258 t259 _ A7.out).mono ?_); rintro e w15 ⟨rfl, hb⟩; refine ⟨_, rfl, ?_⟩; replace BK255 := bbA BK255 hb; replace HB := bsA HB hb; (try clear hb); (try clear hb2); (try clear hk); (try clear hi)) | ((with_reducible refine gate_dst (N := 4) rfl ?_); refine box_event ?hg (N := 4) ?hd (cs := #[.int .i64 0, .int .i64 0, .string (⟨#[]⟩ : ByteArray), .bool false]) (t := 43) ?hr ?_; (case hd => rfl); (case hg => rfl); (case hr => first | (go_simp; done) | (go_simp; rfl)); intro gb260 hg w16 hbox hb; have BK260 := Aside0.mk hbox; have GW260 := geA hg HB; have GE260 := geA hg HB; have NB255_260 := neA hg BK255; have NB260_255 := neB hg BK255; replace BK255 := bbA BK255 hb; replace HB := bsA HB hb; clear hb hbox hg; have hnb17 := NB260_255.out; have hnc17 := NB255_260.out; have hcz18_0 : w16.cell? ⟨gb260, 0, none⟩ = some (.int .i64 0) := (blk_cell BK260.out 0).trans rfl; have hcz18_1 : w16.cell? ⟨gb260, 1, none⟩ = some (.int .i64 0) := (blk_cell BK260.out 1).trans rfl; have hcz18_2 : w16.cell? ⟨gb260, 2, none⟩ = some (.string (⟨#[]⟩ : ByteArray)) := (blk_cell BK260.out 2).trans rfl; have hcz18_3 : w16.cell? ⟨gb260, 3, none⟩ = some (.bool false) := (blk_cell BK260.out 3).trans rfl; have hfz18_0 := blk_frozen BK260.out 0; have hfz18_1 := blk_frozen BK260.out 1; have hfz18_2 := blk_frozen BK260.out 2; have hfz18_3 := blk_frozen BK260.out 3; have p9 : 0 ≤ (0 : Int) := (by omega); have q9 : 0 < a0.size := (by have : (0 : Int) < (a0.size : Int) := of_decide_eq_true (by first | (with_reducible assumption) | assumption); omega); have hx9 : ∀ h : 0 < a0.size, ((a0[0]'h).toNat : Int) = bt a0 0 := bt_at a0 0; clear p9; have qi9 : (0 < (a0.size : Int)) = True := eq_true (of_decide_eq_true (by first | (with_reducible assumption) | assumption)); replace q9 := eq_true q9) | ((with_reducible refine gate_callee (f := 65) rfl ?_); refine goesT (some 22) Tryz.func65 #[.string a0] ?_; (with_reducible refine (refrainref1_unquoted.calls kj1 a0 t261 t262 t263 t264 _ A11.out).mono ?_); rintro e w19 ⟨rfl, hb⟩; refine ⟨_, rfl, ?_⟩; replace BK255 := Aside0.mk (blk_below (g := gb255) (o := .cells #[.int .i64 0, .int .i64 0, .string (⟨#[]⟩ : ByteArray), .bool false] 43 (0, 0)) (bfT2 NB255_260.out BK255.out) hb); replace BK260 := Aside0.mk (blk_below (g := gb260) (o := .cells #[.int .i64 t256, .int .i64 t257, .string t258, .bool t259] 43 (0, 0)) (by (with_reducible repeat (first | refine blk_drewN ?_ _ | refine blk_drew ?_ | refine blk_alloc ?_ _)); refine blk_put (cs := #[.int .i64 t256, .int .i64 t257, .string t258, .bool false]) ?_ 3 _ rfl; (with_reducible repeat (first | refine blk_drewN ?_ _ | refine blk_drew ?_ | refine blk_alloc ?_ _)); refine blk_put (cs := #[.int .i64 t256, .int .i64 t257, .string (⟨#[]⟩ : ByteArray), .bool false]) ?_ 2 _ rfl; (with_reducible repeat (first | refine blk_drewN ?_ _ | refine blk_drew ?_ | refine blk_alloc ?_ _)); refine blk_put (cs := #[.int .i64 t256, .int .i64 0, .string (⟨#[]⟩ : ByteArray), .bool false]) ?_ 1 _ rfl; (with_reducible repeat (first | refine blk_drewN ?_ _ | refine blk_drew ?_ | refine blk_alloc ?_ _)); refine blk_put (cs := #[.int .i64 0, .int .i64 0, .string (⟨#[]⟩ : ByteArray), .bool false]) ?_ 0 _ rfl; (with_reducible repeat (first | refine blk_drewN ?_ _ | refine blk_drew ?_ | refine blk_alloc ?_ _)); exact BK260.out) hb); replace HB := bsA HB hb; (try clear hb); (try clear hb2); (try clear hk); (try clear hi); have hcz20_0 : w19.cell? ⟨gb260, 0, none⟩ = some (.int .i64 t256) := (blk_cell BK260.out 0).trans rfl; have hcz20_1 : w19.cell? ⟨gb260, 1, none⟩ = some (.int .i64 t257) := (blk_cell BK260.out 1).trans rfl; have hcz20_2 : w19.cell? ⟨gb260, 2, none⟩ = some (.string t258) := (blk_cell BK260.out 2).trans rfl; have hcz20_3 : w19.cell? ⟨gb260, 3, none⟩ = some (.bool t259) := (blk_cell BK260.out 3).trans rfl; have hfz20_0 := blk_frozen BK260.out 0; have hfz20_1 := blk_frozen BK260.out 1; have hfz20_2 := blk_frozen BK260.out 2; have hfz20_3 := blk_frozen BK260.out 3) | ((with_reducible refine gate_callee (f := 34) rfl ?_); refine goesT (some 31) Tryz.func34 #[.agg #[.int .i64 t261, .int .i64 t262, .string t263, .bool t264]] ?_; (with_reducible refine (refrainref1_Show.calls kj1 t261 t262 t263 t264 t265 t266 _ A12.out).mono ?_); rintro e w21 ⟨rfl, hb⟩; refine ⟨_, rfl, ?_⟩; replace BK255 := Aside0.mk (blk_below (g := gb255) (o := .cells #[.int .i64 0, .int .i64 0, .string (⟨#[]⟩ : ByteArray), .bool false] 43 (0, 0)) (bfT2 NB255_260.out BK255.out) hb); replace BK260 := Aside0.mk (blk_below (g := gb260) (o := .cells #[.int .i64 t261, .int .i64 t262, .string t263, .bool t264] 43 (0, 0)) (by (with_reducible repeat (first | refine blk_drewN ?_ _ | refine blk_drew ?_ | refine blk_alloc ?_ _)); refine blk_put (cs := #[.int .i64 t261, .int .i64 t262, .string t263, .bool t259]) ?_ 3 _ rfl; (with_reducible repeat (first | refine blk_drewN ?_ _ | refine blk_drew ?_ | refine blk_alloc ?_ _)); refine blk_put (cs := #[.int .i64 t261, .int .i64 t262, .string t258, .bool t259]) ?_ 2 _ rfl; (with_reducible repeat (first | refine blk_drewN ?_ _ | refine blk_drew ?_ | refine blk_alloc ?_ _)); refine blk_put (cs := #[.int .i64 t261, .int .i64 t257, .string t258, .bool t259]) ?_ 1 _ rfl; (with_reducible repeat (first | refine blk_drewN ?_ _ | refine blk_drew ?_ | refine blk_alloc ?_ _)); refine blk_put (cs := #[.int .i64 t256, .int .i64 t257, .string t258, .bool t259]) ?_ 0 _ rfl; (with_reducible repeat (first | refine blk_drewN ?_ _ | refine blk_drew ?_ | refine blk_alloc ?_ _)); exact BK260.out) hb); replace HB := bsA HB hb; (try clear hb); (try clear hb2); (try clear hk); (try clear hi); have hcz22_0 : w21.cell? ⟨gb260, 0, none⟩ = some (.int .i64 t261) := (blk_cell BK260.out 0).trans rfl; have hcz22_1 : w21.cell? ⟨gb260, 1, none⟩ = some (.int .i64 t262) := (blk_cell BK260.out 1).trans rfl; have hcz22_2 : w21.cell? ⟨gb260, 2, none⟩ = some (.string t263) := (blk_cell BK260.out 2).trans rfl; have hcz22_3 : w21.cell? ⟨gb260, 3, none⟩ = some (.bool t264) := (blk_cell BK260.out 3).trans rfl; have hfz22_0 := blk_frozen BK260.out 0; have hfz22_1 := blk_frozen BK260.out 1; have hfz22_2 := blk_frozen BK260.out 2; have hfz22_3 := blk_frozen BK260.out 3; have hcz23_0 : w21.cell? ⟨gb255, 0, none⟩ = some (.int .i64 0) := (blk_cell BK255.out 0).trans rfl; have hcz23_1 : w21.cell? ⟨gb255, 1, none⟩ = some (.int .i64 0) := (blk_cell BK255.out 1).trans rfl; have hcz23_2 : w21.cell? ⟨gb255, 2, none⟩ = some (.string (⟨#[]⟩ : ByteArray)) := (blk_cell BK255.out 2).trans rfl; have hcz23_3 : w21.cell? ⟨gb255, 3, none⟩ = some (.bool false) := (blk_cell BK255.out 3).trans rfl; have hfz23_0 := blk_frozen BK255.out 0; have hfz23_1 := blk_frozen BK255.out 1; have hfz23_2 := blk_frozen BK255.out 2; have hfz23_3 := blk_frozen BK255.out 3))
                refine bodyPost_ret (results_ct rfl _ _ gb255 43 #[.int .i64 t261, .int .i64 t262, .string t263, .bool t264] (0, 0) _ rfl (by (with_reducible repeat (first | refine blk_drewN ?_ _ | refine blk_drew ?_ | refine blk_alloc ?_ _)); refine blk_put (cs := #[.int .i64 t261, .int .i64 t262, .string t263, .bool false]) ?_ 3 _ rfl; (with_reducible repeat (first | refine blk_drewN ?_ _ | refine blk_drew ?_ | refine blk_alloc ?_ _)); refine blk_put (cs := #[.int .i64 t261, .int .i64 t262, .string (⟨#[]⟩ : ByteArray), .bool false]) ?_ 2 _ rfl; (with_reducible repeat (first | refine blk_drewN ?_ _ | refine blk_drew ?_ | refine blk_alloc ?_ _)); refine blk_put (cs := #[.int .i64 t261, .int .i64 0, .string (⟨#[]⟩ : ByteArray), .bool false]) ?_ 1 _ rfl; (with_reducible repeat (first | refine blk_drewN ?_ _ | refine blk_drew ?_ | refine blk_alloc ?_ _)); refine blk_put (cs := #[.int .i64 0, .int .i64 0, .string (⟨#[]⟩ : ByteArray), .bool false]) ?_ 0 _ rfl; (with_reducible repeat (first | refine blk_drewN ?_ _ | refine blk_drew ?_ | refine blk_alloc ?_ _)); exact BK255.out) Tryz.underlying43 rfl (by kernel_rfl)) rfl ?_
                exact ⟨by first | rfl | (simp [errW_none, errW_some] <;> rfl) | (simp [*, errW_none, errW_some] <;> rfl), hbT HB.out⟩
              · rw [if_neg c14] at H
                have c14b0 : (t265.toList == a0.toList) = false := beq_eq_false_iff_ne.mpr c14
                have c14b1 : (t265.toList != a0.toList) = true := bne_iff_ne.mpr c14
                simp only [Option.some.injEq, Prod.mk.injEq] at H
                obtain ⟨rfl, rfl, rfl, rfl, rfl⟩ := H
                go_wp2_with (first | ((with_reducible refine gate_callee (f := 64) rfl ?_); refine goesT (some 16) Tryz.func64 #[.string a0] ?_; (with_reducible refine (refrainref1_guessed.calls kj1 a0 t256 t257 t258 t259 _ A7.out).mono ?_); rintro e w24 ⟨rfl, hb⟩; refine ⟨_, rfl, ?_⟩; replace BK255 := bbA BK255 hb; replace HB := bsA HB hb; (try clear hb); (try clear hb2); (try clear hk); (try clear hi)) | ((with_reducible refine gate_dst (N := 4) rfl ?_); refine box_event ?hg (N := 4) ?hd (cs := #[.int .i64 0, .int .i64 0, .string (⟨#[]⟩ : ByteArray), .bool false]) (t := 43) ?hr ?_; (case hd => rfl); (case hg => rfl); (case hr => first | (go_simp; done) | (go_simp; rfl)); intro gb260 hg w25 hbox hb; have BK260 := Aside0.mk hbox; have GW260 := geA hg HB; have GE260 := geA hg HB; have NB255_260 := neA hg BK255; have NB260_255 := neB hg BK255; replace BK255 := bbA BK255 hb; replace HB := bsA HB hb; clear hb hbox hg; have hnb26 := NB260_255.out; have hnc26 := NB255_260.out; have hcz27_0 : w25.cell? ⟨gb260, 0, none⟩ = some (.int .i64 0) := (blk_cell BK260.out 0).trans rfl; have hcz27_1 : w25.cell? ⟨gb260, 1, none⟩ = some (.int .i64 0) := (blk_cell BK260.out 1).trans rfl; have hcz27_2 : w25.cell? ⟨gb260, 2, none⟩ = some (.string (⟨#[]⟩ : ByteArray)) := (blk_cell BK260.out 2).trans rfl; have hcz27_3 : w25.cell? ⟨gb260, 3, none⟩ = some (.bool false) := (blk_cell BK260.out 3).trans rfl; have hfz27_0 := blk_frozen BK260.out 0; have hfz27_1 := blk_frozen BK260.out 1; have hfz27_2 := blk_frozen BK260.out 2; have hfz27_3 := blk_frozen BK260.out 3; have p9 : 0 ≤ (0 : Int) := (by omega); have q9 : 0 < a0.size := (by have : (0 : Int) < (a0.size : Int) := of_decide_eq_true (by first | (with_reducible assumption) | assumption); omega); have hx9 : ∀ h : 0 < a0.size, ((a0[0]'h).toNat : Int) = bt a0 0 := bt_at a0 0; clear p9; have qi9 : (0 < (a0.size : Int)) = True := eq_true (of_decide_eq_true (by first | (with_reducible assumption) | assumption)); replace q9 := eq_true q9) | ((with_reducible refine gate_callee (f := 65) rfl ?_); refine goesT (some 22) Tryz.func65 #[.string a0] ?_; (with_reducible refine (refrainref1_unquoted.calls kj1 a0 t261 t262 t263 t264 _ A11.out).mono ?_); rintro e w28 ⟨rfl, hb⟩; refine ⟨_, rfl, ?_⟩; replace BK255 := Aside0.mk (blk_below (g := gb255) (o := .cells #[.int .i64 0, .int .i64 0, .string (⟨#[]⟩ : ByteArray), .bool false] 43 (0, 0)) (bfT2 NB255_260.out BK255.out) hb); replace BK260 := Aside0.mk (blk_below (g := gb260) (o := .cells #[.int .i64 t256, .int .i64 t257, .string t258, .bool t259] 43 (0, 0)) (by (with_reducible repeat (first | refine blk_drewN ?_ _ | refine blk_drew ?_ | refine blk_alloc ?_ _)); refine blk_put (cs := #[.int .i64 t256, .int .i64 t257, .string t258, .bool false]) ?_ 3 _ rfl; (with_reducible repeat (first | refine blk_drewN ?_ _ | refine blk_drew ?_ | refine blk_alloc ?_ _)); refine blk_put (cs := #[.int .i64 t256, .int .i64 t257, .string (⟨#[]⟩ : ByteArray), .bool false]) ?_ 2 _ rfl; (with_reducible repeat (first | refine blk_drewN ?_ _ | refine blk_drew ?_ | refine blk_alloc ?_ _)); refine blk_put (cs := #[.int .i64 t256, .int .i64 0, .string (⟨#[]⟩ : ByteArray), .bool false]) ?_ 1 _ rfl; (with_reducible repeat (first | refine blk_drewN ?_ _ | refine blk_drew ?_ | refine blk_alloc ?_ _)); refine blk_put (cs := #[.int .i64 0, .int .i64 0, .string (⟨#[]⟩ : ByteArray), .bool false]) ?_ 0 _ rfl; (with_reducible repeat (first | refine blk_drewN ?_ _ | refine blk_drew ?_ | refine blk_alloc ?_ _)); exact BK260.out) hb); replace HB := bsA HB hb; (try clear hb); (try clear hb2); (try clear hk); (try clear hi); have hcz29_0 : w28.cell? ⟨gb260, 0, none⟩ = some (.int .i64 t256) := (blk_cell BK260.out 0).trans rfl; have hcz29_1 : w28.cell? ⟨gb260, 1, none⟩ = some (.int .i64 t257) := (blk_cell BK260.out 1).trans rfl; have hcz29_2 : w28.cell? ⟨gb260, 2, none⟩ = some (.string t258) := (blk_cell BK260.out 2).trans rfl; have hcz29_3 : w28.cell? ⟨gb260, 3, none⟩ = some (.bool t259) := (blk_cell BK260.out 3).trans rfl; have hfz29_0 := blk_frozen BK260.out 0; have hfz29_1 := blk_frozen BK260.out 1; have hfz29_2 := blk_frozen BK260.out 2; have hfz29_3 := blk_frozen BK260.out 3) | ((with_reducible refine gate_callee (f := 34) rfl ?_); refine goesT (some 31) Tryz.func34 #[.agg #[.int .i64 t261, .int .i64 t262, .string t263, .bool t264]] ?_; (with_reducible refine (refrainref1_Show.calls kj1 t261 t262 t263 t264 t265 t266 _ A12.out).mono ?_); rintro e w30 ⟨rfl, hb⟩; refine ⟨_, rfl, ?_⟩; replace BK255 := Aside0.mk (blk_below (g := gb255) (o := .cells #[.int .i64 0, .int .i64 0, .string (⟨#[]⟩ : ByteArray), .bool false] 43 (0, 0)) (bfT2 NB255_260.out BK255.out) hb); replace BK260 := Aside0.mk (blk_below (g := gb260) (o := .cells #[.int .i64 t261, .int .i64 t262, .string t263, .bool t264] 43 (0, 0)) (by (with_reducible repeat (first | refine blk_drewN ?_ _ | refine blk_drew ?_ | refine blk_alloc ?_ _)); refine blk_put (cs := #[.int .i64 t261, .int .i64 t262, .string t263, .bool t259]) ?_ 3 _ rfl; (with_reducible repeat (first | refine blk_drewN ?_ _ | refine blk_drew ?_ | refine blk_alloc ?_ _)); refine blk_put (cs := #[.int .i64 t261, .int .i64 t262, .string t258, .bool t259]) ?_ 2 _ rfl; (with_reducible repeat (first | refine blk_drewN ?_ _ | refine blk_drew ?_ | refine blk_alloc ?_ _)); refine blk_put (cs := #[.int .i64 t261, .int .i64 t257, .string t258, .bool t259]) ?_ 1 _ rfl; (with_reducible repeat (first | refine blk_drewN ?_ _ | refine blk_drew ?_ | refine blk_alloc ?_ _)); refine blk_put (cs := #[.int .i64 t256, .int .i64 t257, .string t258, .bool t259]) ?_ 0 _ rfl; (with_reducible repeat (first | refine blk_drewN ?_ _ | refine blk_drew ?_ | refine blk_alloc ?_ _)); exact BK260.out) hb); replace HB := bsA HB hb; (try clear hb); (try clear hb2); (try clear hk); (try clear hi); have hcz31_0 : w30.cell? ⟨gb255, 0, none⟩ = some (.int .i64 0) := (blk_cell BK255.out 0).trans rfl; have hcz31_1 : w30.cell? ⟨gb255, 1, none⟩ = some (.int .i64 0) := (blk_cell BK255.out 1).trans rfl; have hcz31_2 : w30.cell? ⟨gb255, 2, none⟩ = some (.string (⟨#[]⟩ : ByteArray)) := (blk_cell BK255.out 2).trans rfl; have hcz31_3 : w30.cell? ⟨gb255, 3, none⟩ = some (.bool false) := (blk_cell BK255.out 3).trans rfl; have hfz31_0 := blk_frozen BK255.out 0; have hfz31_1 := blk_frozen BK255.out 1; have hfz31_2 := blk_frozen BK255.out 2; have hfz31_3 := blk_frozen BK255.out 3))
                refine bodyPost_ret (results_ct rfl _ _ gb255 43 #[.int .i64 0, .int .i64 0, .string (⟨#[]⟩ : ByteArray), .bool false] (0, 0) _ rfl (by (with_reducible repeat (first | refine blk_drewN ?_ _ | refine blk_drew ?_ | refine blk_alloc ?_ _)); refine blk_put (cs := #[.int .i64 0, .int .i64 0, .string (⟨#[]⟩ : ByteArray), .bool false]) ?_ 3 _ rfl; (with_reducible repeat (first | refine blk_drewN ?_ _ | refine blk_drew ?_ | refine blk_alloc ?_ _)); refine blk_put (cs := #[.int .i64 0, .int .i64 0, .string (⟨#[]⟩ : ByteArray), .bool false]) ?_ 2 _ rfl; (with_reducible repeat (first | refine blk_drewN ?_ _ | refine blk_drew ?_ | refine blk_alloc ?_ _)); refine blk_put (cs := #[.int .i64 0, .int .i64 0, .string (⟨#[]⟩ : ByteArray), .bool false]) ?_ 1 _ rfl; (with_reducible repeat (first | refine blk_drewN ?_ _ | refine blk_drew ?_ | refine blk_alloc ?_ _)); refine blk_put (cs := #[.int .i64 0, .int .i64 0, .string (⟨#[]⟩ : ByteArray), .bool false]) ?_ 0 _ rfl; (with_reducible repeat (first | refine blk_drewN ?_ _ | refine blk_drew ?_ | refine blk_alloc ?_ _)); exact BK255.out) Tryz.underlying43 rfl (by kernel_rfl)) rfl ?_
                exact ⟨by first | rfl | (simp [errW_none, errW_some] <;> rfl) | (simp [*, errW_none, errW_some] <;> rfl), hbT HB.out⟩
            · rw [if_neg c13] at H
              have c13b0 : (t266 == 0) = false := beq_eq_false_iff_ne.mpr c13
              have c13b1 : (t266 != 0) = true := bne_iff_ne.mpr c13
              simp only [Option.some.injEq, Prod.mk.injEq] at H
              obtain ⟨rfl, rfl, rfl, rfl, rfl⟩ := H
              go_wp2_with (first | ((with_reducible refine gate_callee (f := 64) rfl ?_); refine goesT (some 16) Tryz.func64 #[.string a0] ?_; (with_reducible refine (refrainref1_guessed.calls kj1 a0 t256 t257 t258 t259 _ A7.out).mono ?_); rintro e w32 ⟨rfl, hb⟩; refine ⟨_, rfl, ?_⟩; replace BK255 := bbA BK255 hb; replace HB := bsA HB hb; (try clear hb); (try clear hb2); (try clear hk); (try clear hi)) | ((with_reducible refine gate_dst (N := 4) rfl ?_); refine box_event ?hg (N := 4) ?hd (cs := #[.int .i64 0, .int .i64 0, .string (⟨#[]⟩ : ByteArray), .bool false]) (t := 43) ?hr ?_; (case hd => rfl); (case hg => rfl); (case hr => first | (go_simp; done) | (go_simp; rfl)); intro gb260 hg w33 hbox hb; have BK260 := Aside0.mk hbox; have GW260 := geA hg HB; have GE260 := geA hg HB; have NB255_260 := neA hg BK255; have NB260_255 := neB hg BK255; replace BK255 := bbA BK255 hb; replace HB := bsA HB hb; clear hb hbox hg; have hnb34 := NB260_255.out; have hnc34 := NB255_260.out; have hcz35_0 : w33.cell? ⟨gb260, 0, none⟩ = some (.int .i64 0) := (blk_cell BK260.out 0).trans rfl; have hcz35_1 : w33.cell? ⟨gb260, 1, none⟩ = some (.int .i64 0) := (blk_cell BK260.out 1).trans rfl; have hcz35_2 : w33.cell? ⟨gb260, 2, none⟩ = some (.string (⟨#[]⟩ : ByteArray)) := (blk_cell BK260.out 2).trans rfl; have hcz35_3 : w33.cell? ⟨gb260, 3, none⟩ = some (.bool false) := (blk_cell BK260.out 3).trans rfl; have hfz35_0 := blk_frozen BK260.out 0; have hfz35_1 := blk_frozen BK260.out 1; have hfz35_2 := blk_frozen BK260.out 2; have hfz35_3 := blk_frozen BK260.out 3; have p9 : 0 ≤ (0 : Int) := (by omega); have q9 : 0 < a0.size := (by have : (0 : Int) < (a0.size : Int) := of_decide_eq_true (by first | (with_reducible assumption) | assumption); omega); have hx9 : ∀ h : 0 < a0.size, ((a0[0]'h).toNat : Int) = bt a0 0 := bt_at a0 0; clear p9; have qi9 : (0 < (a0.size : Int)) = True := eq_true (of_decide_eq_true (by first | (with_reducible assumption) | assumption)); replace q9 := eq_true q9) | ((with_reducible refine gate_callee (f := 65) rfl ?_); refine goesT (some 22) Tryz.func65 #[.string a0] ?_; (with_reducible refine (refrainref1_unquoted.calls kj1 a0 t261 t262 t263 t264 _ A11.out).mono ?_); rintro e w36 ⟨rfl, hb⟩; refine ⟨_, rfl, ?_⟩; replace BK255 := Aside0.mk (blk_below (g := gb255) (o := .cells #[.int .i64 0, .int .i64 0, .string (⟨#[]⟩ : ByteArray), .bool false] 43 (0, 0)) (bfT2 NB255_260.out BK255.out) hb); replace BK260 := Aside0.mk (blk_below (g := gb260) (o := .cells #[.int .i64 t256, .int .i64 t257, .string t258, .bool t259] 43 (0, 0)) (by (with_reducible repeat (first | refine blk_drewN ?_ _ | refine blk_drew ?_ | refine blk_alloc ?_ _)); refine blk_put (cs := #[.int .i64 t256, .int .i64 t257, .string t258, .bool false]) ?_ 3 _ rfl; (with_reducible repeat (first | refine blk_drewN ?_ _ | refine blk_drew ?_ | refine blk_alloc ?_ _)); refine blk_put (cs := #[.int .i64 t256, .int .i64 t257, .string (⟨#[]⟩ : ByteArray), .bool false]) ?_ 2 _ rfl; (with_reducible repeat (first | refine blk_drewN ?_ _ | refine blk_drew ?_ | refine blk_alloc ?_ _)); refine blk_put (cs := #[.int .i64 t256, .int .i64 0, .string (⟨#[]⟩ : ByteArray), .bool false]) ?_ 1 _ rfl; (with_reducible repeat (first | refine blk_drewN ?_ _ | refine blk_drew ?_ | refine blk_alloc ?_ _)); refine blk_put (cs := #[.int .i64 0, .int .i64 0, .string (⟨#[]⟩ : ByteArray), .bool false]) ?_ 0 _ rfl; (with_reducible repeat (first | refine blk_drewN ?_ _ | refine blk_drew ?_ | refine blk_alloc ?_ _)); exact BK260.out) hb); replace HB := bsA HB hb; (try clear hb); (try clear hb2); (try clear hk); (try clear hi); have hcz37_0 : w36.cell? ⟨gb260, 0, none⟩ = some (.int .i64 t256) := (blk_cell BK260.out 0).trans rfl; have hcz37_1 : w36.cell? ⟨gb260, 1, none⟩ = some (.int .i64 t257) := (blk_cell BK260.out 1).trans rfl; have hcz37_2 : w36.cell? ⟨gb260, 2, none⟩ = some (.string t258) := (blk_cell BK260.out 2).trans rfl; have hcz37_3 : w36.cell? ⟨gb260, 3, none⟩ = some (.bool t259) := (blk_cell BK260.out 3).trans rfl; have hfz37_0 := blk_frozen BK260.out 0; have hfz37_1 := blk_frozen BK260.out 1; have hfz37_2 := blk_frozen BK260.out 2; have hfz37_3 := blk_frozen BK260.out 3) | ((with_reducible refine gate_callee (f := 34) rfl ?_); refine goesT (some 31) Tryz.func34 #[.agg #[.int .i64 t261, .int .i64 t262, .string t263, .bool t264]] ?_; (with_reducible refine (refrainref1_Show.calls kj1 t261 t262 t263 t264 t265 t266 _ A12.out).mono ?_); rintro e w38 ⟨rfl, hb⟩; refine ⟨_, rfl, ?_⟩; replace BK255 := Aside0.mk (blk_below (g := gb255) (o := .cells #[.int .i64 0, .int .i64 0, .string (⟨#[]⟩ : ByteArray), .bool false] 43 (0, 0)) (bfT2 NB255_260.out BK255.out) hb); replace BK260 := Aside0.mk (blk_below (g := gb260) (o := .cells #[.int .i64 t261, .int .i64 t262, .string t263, .bool t264] 43 (0, 0)) (by (with_reducible repeat (first | refine blk_drewN ?_ _ | refine blk_drew ?_ | refine blk_alloc ?_ _)); refine blk_put (cs := #[.int .i64 t261, .int .i64 t262, .string t263, .bool t259]) ?_ 3 _ rfl; (with_reducible repeat (first | refine blk_drewN ?_ _ | refine blk_drew ?_ | refine blk_alloc ?_ _)); refine blk_put (cs := #[.int .i64 t261, .int .i64 t262, .string t258, .bool t259]) ?_ 2 _ rfl; (with_reducible repeat (first | refine blk_drewN ?_ _ | refine blk_drew ?_ | refine blk_alloc ?_ _)); refine blk_put (cs := #[.int .i64 t261, .int .i64 t257, .string t258, .bool t259]) ?_ 1 _ rfl; (with_reducible repeat (first | refine blk_drewN ?_ _ | refine blk_drew ?_ | refine blk_alloc ?_ _)); refine blk_put (cs := #[.int .i64 t256, .int .i64 t257, .string t258, .bool t259]) ?_ 0 _ rfl; (with_reducible repeat (first | refine blk_drewN ?_ _ | refine blk_drew ?_ | refine blk_alloc ?_ _)); exact BK260.out) hb); replace HB := bsA HB hb; (try clear hb); (try clear hb2); (try clear hk); (try clear hi); have hcz39_0 : w38.cell? ⟨gb255, 0, none⟩ = some (.int .i64 0) := (blk_cell BK255.out 0).trans rfl; have hcz39_1 : w38.cell? ⟨gb255, 1, none⟩ = some (.int .i64 0) := (blk_cell BK255.out 1).trans rfl; have hcz39_2 : w38.cell? ⟨gb255, 2, none⟩ = some (.string (⟨#[]⟩ : ByteArray)) := (blk_cell BK255.out 2).trans rfl; have hcz39_3 : w38.cell? ⟨gb255, 3, none⟩ = some (.bool false) := (blk_cell BK255.out 3).trans rfl; have hfz39_0 := blk_frozen BK255.out 0; have hfz39_1 := blk_frozen BK255.out 1; have hfz39_2 := blk_frozen BK255.out 2; have hfz39_3 := blk_frozen BK255.out 3))
              refine bodyPost_ret (results_ct rfl _ _ gb255 43 #[.int .i64 0, .int .i64 0, .string (⟨#[]⟩ : ByteArray), .bool false] (0, 0) _ rfl (by (with_reducible repeat (first | refine blk_drewN ?_ _ | refine blk_drew ?_ | refine blk_alloc ?_ _)); refine blk_put (cs := #[.int .i64 0, .int .i64 0, .string (⟨#[]⟩ : ByteArray), .bool false]) ?_ 3 _ rfl; (with_reducible repeat (first | refine blk_drewN ?_ _ | refine blk_drew ?_ | refine blk_alloc ?_ _)); refine blk_put (cs := #[.int .i64 0, .int .i64 0, .string (⟨#[]⟩ : ByteArray), .bool false]) ?_ 2 _ rfl; (with_reducible repeat (first | refine blk_drewN ?_ _ | refine blk_drew ?_ | refine blk_alloc ?_ _)); refine blk_put (cs := #[.int .i64 0, .int .i64 0, .string (⟨#[]⟩ : ByteArray), .bool false]) ?_ 1 _ rfl; (with_reducible repeat (first | refine blk_drewN ?_ _ | refine blk_drew ?_ | refine blk_alloc ?_ _)); refine blk_put (cs := #[.int .i64 0, .int .i64 0, .string (⟨#[]⟩ : ByteArray), .bool false]) ?_ 0 _ rfl; (with_reducible repeat (first | refine blk_drewN ?_ _ | refine blk_drew ?_ | refine blk_alloc ?_ _)); exact BK255.out) Tryz.underlying43 rfl (by kernel_rfl)) rfl ?_
              exact ⟨by first | rfl | (simp [errW_none, errW_some] <;> rfl) | (simp [*, errW_none, errW_some] <;> rfl), hbT HB.out⟩
          · rw [if_neg c10] at H
            have c10b0 : ((bt a0 0) == 34) = false := beq_eq_false_iff_ne.mpr c10
            have c10b1 : ((bt a0 0) != 34) = true := bne_iff_ne.mpr c10
            by_cases c40 : (bt a0 0) = 84
            · rw [if_pos c40] at H
              have c40b0 : ((bt a0 0) == 84) = true := beq_iff_eq.mpr c40
              have c40b1 : ((bt a0 0) != 84) = false := bne_eq_false_iff_eq.mpr c40
              clear c40
              replace H := Option.bind_eq_some_iff.mp H
              obtain ⟨⟨t267, t268⟩, A410, H⟩ := H
              replace H : (if t268 = 0 then (if t267.toList = a0.toList then (some (3, 0, (⟨#[]⟩ : ByteArray), true, 0)) else (some (0, 0, (⟨#[]⟩ : ByteArray), false, 12))) else (some (0, 0, (⟨#[]⟩ : ByteArray), false, 12))) = some (r1, r2, r3, r4, r5) := H
              have A41 := Aside0.mk A410
              clear A410
              by_cases c42 : t268 = 0
              · rw [if_pos c42] at H
                have c42b0 : (t268 == 0) = true := beq_iff_eq.mpr c42
                have c42b1 : (t268 != 0) = false := bne_eq_false_iff_eq.mpr c42
                clear c42
                by_cases c43 : t267.toList = a0.toList
                · rw [if_pos c43] at H
                  have c43b0 : (t267.toList == a0.toList) = true := beq_iff_eq.mpr c43
                  have c43b1 : (t267.toList != a0.toList) = false := bne_eq_false_iff_eq.mpr c43
                  clear c43
                  simp only [Option.some.injEq, Prod.mk.injEq] at H
                  obtain ⟨rfl, rfl, rfl, rfl, rfl⟩ := H
                  go_wp2_with (first | ((with_reducible refine gate_callee (f := 64) rfl ?_); refine goesT (some 16) Tryz.func64 #[.string a0] ?_; (with_reducible refine (refrainref1_guessed.calls kj1 a0 t256 t257 t258 t259 _ A7.out).mono ?_); rintro e w44 ⟨rfl, hb⟩; refine ⟨_, rfl, ?_⟩; replace BK255 := bbA BK255 hb; replace HB := bsA HB hb; (try clear hb); (try clear hb2); (try clear hk); (try clear hi)) | ((with_reducible refine gate_dst (N := 4) rfl ?_); refine box_event ?hg (N := 4) ?hd (cs := #[.int .i64 0, .int .i64 0, .string (⟨#[]⟩ : ByteArray), .bool false]) (t := 43) ?hr ?_; (case hd => rfl); (case hg => rfl); (case hr => first | (go_simp; done) | (go_simp; rfl)); intro gb260 hg w45 hbox hb; have BK260 := Aside0.mk hbox; have GW260 := geA hg HB; have GE260 := geA hg HB; have NB255_260 := neA hg BK255; have NB260_255 := neB hg BK255; replace BK255 := bbA BK255 hb; replace HB := bsA HB hb; clear hb hbox hg; have hnb46 := NB260_255.out; have hnc46 := NB255_260.out; have hcz47_0 : w45.cell? ⟨gb260, 0, none⟩ = some (.int .i64 0) := (blk_cell BK260.out 0).trans rfl; have hcz47_1 : w45.cell? ⟨gb260, 1, none⟩ = some (.int .i64 0) := (blk_cell BK260.out 1).trans rfl; have hcz47_2 : w45.cell? ⟨gb260, 2, none⟩ = some (.string (⟨#[]⟩ : ByteArray)) := (blk_cell BK260.out 2).trans rfl; have hcz47_3 : w45.cell? ⟨gb260, 3, none⟩ = some (.bool false) := (blk_cell BK260.out 3).trans rfl; have hfz47_0 := blk_frozen BK260.out 0; have hfz47_1 := blk_frozen BK260.out 1; have hfz47_2 := blk_frozen BK260.out 2; have hfz47_3 := blk_frozen BK260.out 3; have p9 : 0 ≤ (0 : Int) := (by omega); have q9 : 0 < a0.size := (by have : (0 : Int) < (a0.size : Int) := of_decide_eq_true (by first | (with_reducible assumption) | assumption); omega); have hx9 : ∀ h : 0 < a0.size, ((a0[0]'h).toNat : Int) = bt a0 0 := bt_at a0 0; clear p9; have qi9 : (0 < (a0.size : Int)) = True := eq_true (of_decide_eq_true (by first | (with_reducible assumption) | assumption)); replace q9 := eq_true q9) | ((with_reducible refine gate_callee (f := 34) rfl ?_); refine goesT (some 31) Tryz.func34 #[.agg #[.int .i64 3, .int .i64 0, .string (⟨#[]⟩ : ByteArray), .bool true]] ?_; (with_reducible refine (refrainref1_Show.calls kj1 3 0 (⟨#[]⟩ : ByteArray) true t267 t268 _ A41.out).mono ?_); rintro e w48 ⟨rfl, hb⟩; refine ⟨_, rfl, ?_⟩; replace BK255 := Aside0.mk (blk_below (g := gb255) (o := .cells #[.int .i64 0, .int .i64 0, .string (⟨#[]⟩ : ByteArray), .bool false] 43 (0, 0)) (bfT2 NB255_260.out BK255.out) hb); replace BK260 := Aside0.mk (blk_below (g := gb260) (o := .cells #[.int .i64 3, .int .i64 0, .string (⟨#[]⟩ : ByteArray), .bool true] 43 (0, 0)) (by (with_reducible repeat (first | refine blk_drewN ?_ _ | refine blk_drew ?_ | refine blk_alloc ?_ _)); refine blk_put (cs := #[.int .i64 3, .int .i64 0, .string (⟨#[]⟩ : ByteArray), .bool t259]) ?_ 3 _ rfl; (with_reducible repeat (first | refine blk_drewN ?_ _ | refine blk_drew ?_ | refine blk_alloc ?_ _)); refine blk_put (cs := #[.int .i64 3, .int .i64 0, .string t258, .bool t259]) ?_ 2 _ rfl; (with_reducible repeat (first | refine blk_drewN ?_ _ | refine blk_drew ?_ | refine blk_alloc ?_ _)); refine blk_put (cs := #[.int .i64 3, .int .i64 t257, .string t258, .bool t259]) ?_ 1 _ rfl; (with_reducible repeat (first | refine blk_drewN ?_ _ | refine blk_drew ?_ | refine blk_alloc ?_ _)); refine blk_put (cs := #[.int .i64 t256, .int .i64 t257, .string t258, .bool t259]) ?_ 0 _ rfl; (with_reducible repeat (first | refine blk_drewN ?_ _ | refine blk_drew ?_ | refine blk_alloc ?_ _)); refine blk_put (cs := #[.int .i64 t256, .int .i64 t257, .string t258, .bool false]) ?_ 3 _ rfl; (with_reducible repeat (first | refine blk_drewN ?_ _ | refine blk_drew ?_ | refine blk_alloc ?_ _)); refine blk_put (cs := #[.int .i64 t256, .int .i64 t257, .string (⟨#[]⟩ : ByteArray), .bool false]) ?_ 2 _ rfl; (with_reducible repeat (first | refine blk_drewN ?_ _ | refine blk_drew ?_ | refine blk_alloc ?_ _)); refine blk_put (cs := #[.int .i64 t256, .int .i64 0, .string (⟨#[]⟩ : ByteArray), .bool false]) ?_ 1 _ rfl; (with_reducible repeat (first | refine blk_drewN ?_ _ | refine blk_drew ?_ | refine blk_alloc ?_ _)); refine blk_put (cs := #[.int .i64 0, .int .i64 0, .string (⟨#[]⟩ : ByteArray), .bool false]) ?_ 0 _ rfl; (with_reducible repeat (first | refine blk_drewN ?_ _ | refine blk_drew ?_ | refine blk_alloc ?_ _)); exact BK260.out) hb); replace HB := bsA HB hb; (try clear hb); (try clear hb2); (try clear hk); (try clear hi); have hcz49_0 : w48.cell? ⟨gb260, 0, none⟩ = some (.int .i64 3) := (blk_cell BK260.out 0).trans rfl; have hcz49_1 : w48.cell? ⟨gb260, 1, none⟩ = some (.int .i64 0) := (blk_cell BK260.out 1).trans rfl; have hcz49_2 : w48.cell? ⟨gb260, 2, none⟩ = some (.string (⟨#[]⟩ : ByteArray)) := (blk_cell BK260.out 2).trans rfl; have hcz49_3 : w48.cell? ⟨gb260, 3, none⟩ = some (.bool true) := (blk_cell BK260.out 3).trans rfl; have hfz49_0 := blk_frozen BK260.out 0; have hfz49_1 := blk_frozen BK260.out 1; have hfz49_2 := blk_frozen BK260.out 2; have hfz49_3 := blk_frozen BK260.out 3; have hcz50_0 : w48.cell? ⟨gb255, 0, none⟩ = some (.int .i64 0) := (blk_cell BK255.out 0).trans rfl; have hcz50_1 : w48.cell? ⟨gb255, 1, none⟩ = some (.int .i64 0) := (blk_cell BK255.out 1).trans rfl; have hcz50_2 : w48.cell? ⟨gb255, 2, none⟩ = some (.string (⟨#[]⟩ : ByteArray)) := (blk_cell BK255.out 2).trans rfl; have hcz50_3 : w48.cell? ⟨gb255, 3, none⟩ = some (.bool false) := (blk_cell BK255.out 3).trans rfl; have hfz50_0 := blk_frozen BK255.out 0; have hfz50_1 := blk_frozen BK255.out 1; have hfz50_2 := blk_frozen BK255.out 2; have hfz50_3 := blk_frozen BK255.out 3))
                  refine bodyPost_ret (results_ct rfl _ _ gb255 43 #[.int .i64 3, .int .i64 0, .string (⟨#[]⟩ : ByteArray), .bool true] (0, 0) _ rfl (by (with_reducible repeat (first | refine blk_drewN ?_ _ | refine blk_drew ?_ | refine blk_alloc ?_ _)); refine blk_put (cs := #[.int .i64 3, .int .i64 0, .string (⟨#[]⟩ : ByteArray), .bool false]) ?_ 3 _ rfl; (with_reducible repeat (first | refine blk_drewN ?_ _ | refine blk_drew ?_ | refine blk_alloc ?_ _)); refine blk_put (cs := #[.int .i64 3, .int .i64 0, .string (⟨#[]⟩ : ByteArray), .bool false]) ?_ 2 _ rfl; (with_reducible repeat (first | refine blk_drewN ?_ _ | refine blk_drew ?_ | refine blk_alloc ?_ _)); refine blk_put (cs := #[.int .i64 3, .int .i64 0, .string (⟨#[]⟩ : ByteArray), .bool false]) ?_ 1 _ rfl; (with_reducible repeat (first | refine blk_drewN ?_ _ | refine blk_drew ?_ | refine blk_alloc ?_ _)); refine blk_put (cs := #[.int .i64 0, .int .i64 0, .string (⟨#[]⟩ : ByteArray), .bool false]) ?_ 0 _ rfl; (with_reducible repeat (first | refine blk_drewN ?_ _ | refine blk_drew ?_ | refine blk_alloc ?_ _)); exact BK255.out) Tryz.underlying43 rfl (by kernel_rfl)) rfl ?_
                  exact ⟨by first | rfl | (simp [errW_none, errW_some] <;> rfl) | (simp [*, errW_none, errW_some] <;> rfl), hbT HB.out⟩
                · rw [if_neg c43] at H
                  have c43b0 : (t267.toList == a0.toList) = false := beq_eq_false_iff_ne.mpr c43
                  have c43b1 : (t267.toList != a0.toList) = true := bne_iff_ne.mpr c43
                  simp only [Option.some.injEq, Prod.mk.injEq] at H
                  obtain ⟨rfl, rfl, rfl, rfl, rfl⟩ := H
                  go_wp2_with (first | ((with_reducible refine gate_callee (f := 64) rfl ?_); refine goesT (some 16) Tryz.func64 #[.string a0] ?_; (with_reducible refine (refrainref1_guessed.calls kj1 a0 t256 t257 t258 t259 _ A7.out).mono ?_); rintro e w51 ⟨rfl, hb⟩; refine ⟨_, rfl, ?_⟩; replace BK255 := bbA BK255 hb; replace HB := bsA HB hb; (try clear hb); (try clear hb2); (try clear hk); (try clear hi)) | ((with_reducible refine gate_dst (N := 4) rfl ?_); refine box_event ?hg (N := 4) ?hd (cs := #[.int .i64 0, .int .i64 0, .string (⟨#[]⟩ : ByteArray), .bool false]) (t := 43) ?hr ?_; (case hd => rfl); (case hg => rfl); (case hr => first | (go_simp; done) | (go_simp; rfl)); intro gb260 hg w52 hbox hb; have BK260 := Aside0.mk hbox; have GW260 := geA hg HB; have GE260 := geA hg HB; have NB255_260 := neA hg BK255; have NB260_255 := neB hg BK255; replace BK255 := bbA BK255 hb; replace HB := bsA HB hb; clear hb hbox hg; have hnb53 := NB260_255.out; have hnc53 := NB255_260.out; have hcz54_0 : w52.cell? ⟨gb260, 0, none⟩ = some (.int .i64 0) := (blk_cell BK260.out 0).trans rfl; have hcz54_1 : w52.cell? ⟨gb260, 1, none⟩ = some (.int .i64 0) := (blk_cell BK260.out 1).trans rfl; have hcz54_2 : w52.cell? ⟨gb260, 2, none⟩ = some (.string (⟨#[]⟩ : ByteArray)) := (blk_cell BK260.out 2).trans rfl; have hcz54_3 : w52.cell? ⟨gb260, 3, none⟩ = some (.bool false) := (blk_cell BK260.out 3).trans rfl; have hfz54_0 := blk_frozen BK260.out 0; have hfz54_1 := blk_frozen BK260.out 1; have hfz54_2 := blk_frozen BK260.out 2; have hfz54_3 := blk_frozen BK260.out 3; have p9 : 0 ≤ (0 : Int) := (by omega); have q9 : 0 < a0.size := (by have : (0 : Int) < (a0.size : Int) := of_decide_eq_true (by first | (with_reducible assumption) | assumption); omega); have hx9 : ∀ h : 0 < a0.size, ((a0[0]'h).toNat : Int) = bt a0 0 := bt_at a0 0; clear p9; have qi9 : (0 < (a0.size : Int)) = True := eq_true (of_decide_eq_true (by first | (with_reducible assumption) | assumption)); replace q9 := eq_true q9) | ((with_reducible refine gate_callee (f := 34) rfl ?_); refine goesT (some 31) Tryz.func34 #[.agg #[.int .i64 3, .int .i64 0, .string (⟨#[]⟩ : ByteArray), .bool true]] ?_; (with_reducible refine (refrainref1_Show.calls kj1 3 0 (⟨#[]⟩ : ByteArray) true t267 t268 _ A41.out).mono ?_); rintro e w55 ⟨rfl, hb⟩; refine ⟨_, rfl, ?_⟩; replace BK255 := Aside0.mk (blk_below (g := gb255) (o := .cells #[.int .i64 0, .int .i64 0, .string (⟨#[]⟩ : ByteArray), .bool false] 43 (0, 0)) (bfT2 NB255_260.out BK255.out) hb); replace BK260 := Aside0.mk (blk_below (g := gb260) (o := .cells #[.int .i64 3, .int .i64 0, .string (⟨#[]⟩ : ByteArray), .bool true] 43 (0, 0)) (by (with_reducible repeat (first | refine blk_drewN ?_ _ | refine blk_drew ?_ | refine blk_alloc ?_ _)); refine blk_put (cs := #[.int .i64 3, .int .i64 0, .string (⟨#[]⟩ : ByteArray), .bool t259]) ?_ 3 _ rfl; (with_reducible repeat (first | refine blk_drewN ?_ _ | refine blk_drew ?_ | refine blk_alloc ?_ _)); refine blk_put (cs := #[.int .i64 3, .int .i64 0, .string t258, .bool t259]) ?_ 2 _ rfl; (with_reducible repeat (first | refine blk_drewN ?_ _ | refine blk_drew ?_ | refine blk_alloc ?_ _)); refine blk_put (cs := #[.int .i64 3, .int .i64 t257, .string t258, .bool t259]) ?_ 1 _ rfl; (with_reducible repeat (first | refine blk_drewN ?_ _ | refine blk_drew ?_ | refine blk_alloc ?_ _)); refine blk_put (cs := #[.int .i64 t256, .int .i64 t257, .string t258, .bool t259]) ?_ 0 _ rfl; (with_reducible repeat (first | refine blk_drewN ?_ _ | refine blk_drew ?_ | refine blk_alloc ?_ _)); refine blk_put (cs := #[.int .i64 t256, .int .i64 t257, .string t258, .bool false]) ?_ 3 _ rfl; (with_reducible repeat (first | refine blk_drewN ?_ _ | refine blk_drew ?_ | refine blk_alloc ?_ _)); refine blk_put (cs := #[.int .i64 t256, .int .i64 t257, .string (⟨#[]⟩ : ByteArray), .bool false]) ?_ 2 _ rfl; (with_reducible repeat (first | refine blk_drewN ?_ _ | refine blk_drew ?_ | refine blk_alloc ?_ _)); refine blk_put (cs := #[.int .i64 t256, .int .i64 0, .string (⟨#[]⟩ : ByteArray), .bool false]) ?_ 1 _ rfl; (with_reducible repeat (first | refine blk_drewN ?_ _ | refine blk_drew ?_ | refine blk_alloc ?_ _)); refine blk_put (cs := #[.int .i64 0, .int .i64 0, .string (⟨#[]⟩ : ByteArray), .bool false]) ?_ 0 _ rfl; (with_reducible repeat (first | refine blk_drewN ?_ _ | refine blk_drew ?_ | refine blk_alloc ?_ _)); exact BK260.out) hb); replace HB := bsA HB hb; (try clear hb); (try clear hb2); (try clear hk); (try clear hi); have hcz56_0 : w55.cell? ⟨gb255, 0, none⟩ = some (.int .i64 0) := (blk_cell BK255.out 0).trans rfl; have hcz56_1 : w55.cell? ⟨gb255, 1, none⟩ = some (.int .i64 0) := (blk_cell BK255.out 1).trans rfl; have hcz56_2 : w55.cell? ⟨gb255, 2, none⟩ = some (.string (⟨#[]⟩ : ByteArray)) := (blk_cell BK255.out 2).trans rfl; have hcz56_3 : w55.cell? ⟨gb255, 3, none⟩ = some (.bool false) := (blk_cell BK255.out 3).trans rfl; have hfz56_0 := blk_frozen BK255.out 0; have hfz56_1 := blk_frozen BK255.out 1; have hfz56_2 := blk_frozen BK255.out 2; have hfz56_3 := blk_frozen BK255.out 3))
                  refine bodyPost_ret (results_ct rfl _ _ gb255 43 #[.int .i64 0, .int .i64 0, .string (⟨#[]⟩ : ByteArray), .bool false] (0, 0) _ rfl (by (with_reducible repeat (first | refine blk_drewN ?_ _ | refine blk_drew ?_ | refine blk_alloc ?_ _)); refine blk_put (cs := #[.int .i64 0, .int .i64 0, .string (⟨#[]⟩ : ByteArray), .bool false]) ?_ 3 _ rfl; (with_reducible repeat (first | refine blk_drewN ?_ _ | refine blk_drew ?_ | refine blk_alloc ?_ _)); refine blk_put (cs := #[.int .i64 0, .int .i64 0, .string (⟨#[]⟩ : ByteArray), .bool false]) ?_ 2 _ rfl; (with_reducible repeat (first | refine blk_drewN ?_ _ | refine blk_drew ?_ | refine blk_alloc ?_ _)); refine blk_put (cs := #[.int .i64 0, .int .i64 0, .string (⟨#[]⟩ : ByteArray), .bool false]) ?_ 1 _ rfl; (with_reducible repeat (first | refine blk_drewN ?_ _ | refine blk_drew ?_ | refine blk_alloc ?_ _)); refine blk_put (cs := #[.int .i64 0, .int .i64 0, .string (⟨#[]⟩ : ByteArray), .bool false]) ?_ 0 _ rfl; (with_reducible repeat (first | refine blk_drewN ?_ _ | refine blk_drew ?_ | refine blk_alloc ?_ _)); exact BK255.out) Tryz.underlying43 rfl (by kernel_rfl)) rfl ?_
                  exact ⟨by first | rfl | (simp [errW_none, errW_some] <;> rfl) | (simp [*, errW_none, errW_some] <;> rfl), hbT HB.out⟩
              · rw [if_neg c42] at H
                have c42b0 : (t268 == 0) = false := beq_eq_false_iff_ne.mpr c42
                have c42b1 : (t268 != 0) = true := bne_iff_ne.mpr c42
                simp only [Option.some.injEq, Prod.mk.injEq] at H
                obtain ⟨rfl, rfl, rfl, rfl, rfl⟩ := H
                go_wp2_with (first | ((with_reducible refine gate_callee (f := 64) rfl ?_); refine goesT (some 16) Tryz.func64 #[.string a0] ?_; (with_reducible refine (refrainref1_guessed.calls kj1 a0 t256 t257 t258 t259 _ A7.out).mono ?_); rintro e w57 ⟨rfl, hb⟩; refine ⟨_, rfl, ?_⟩; replace BK255 := bbA BK255 hb; replace HB := bsA HB hb; (try clear hb); (try clear hb2); (try clear hk); (try clear hi)) | ((with_reducible refine gate_dst (N := 4) rfl ?_); refine box_event ?hg (N := 4) ?hd (cs := #[.int .i64 0, .int .i64 0, .string (⟨#[]⟩ : ByteArray), .bool false]) (t := 43) ?hr ?_; (case hd => rfl); (case hg => rfl); (case hr => first | (go_simp; done) | (go_simp; rfl)); intro gb260 hg w58 hbox hb; have BK260 := Aside0.mk hbox; have GW260 := geA hg HB; have GE260 := geA hg HB; have NB255_260 := neA hg BK255; have NB260_255 := neB hg BK255; replace BK255 := bbA BK255 hb; replace HB := bsA HB hb; clear hb hbox hg; have hnb59 := NB260_255.out; have hnc59 := NB255_260.out; have hcz60_0 : w58.cell? ⟨gb260, 0, none⟩ = some (.int .i64 0) := (blk_cell BK260.out 0).trans rfl; have hcz60_1 : w58.cell? ⟨gb260, 1, none⟩ = some (.int .i64 0) := (blk_cell BK260.out 1).trans rfl; have hcz60_2 : w58.cell? ⟨gb260, 2, none⟩ = some (.string (⟨#[]⟩ : ByteArray)) := (blk_cell BK260.out 2).trans rfl; have hcz60_3 : w58.cell? ⟨gb260, 3, none⟩ = some (.bool false) := (blk_cell BK260.out 3).trans rfl; have hfz60_0 := blk_frozen BK260.out 0; have hfz60_1 := blk_frozen BK260.out 1; have hfz60_2 := blk_frozen BK260.out 2; have hfz60_3 := blk_frozen BK260.out 3; have p9 : 0 ≤ (0 : Int) := (by omega); have q9 : 0 < a0.size := (by have : (0 : Int) < (a0.size : Int) := of_decide_eq_true (by first | (with_reducible assumption) | assumption); omega); have hx9 : ∀ h : 0 < a0.size, ((a0[0]'h).toNat : Int) = bt a0 0 := bt_at a0 0; clear p9; have qi9 : (0 < (a0.size : Int)) = True := eq_true (of_decide_eq_true (by first | (with_reducible assumption) | assumption)); replace q9 := eq_true q9) | ((with_reducible refine gate_callee (f := 34) rfl ?_); refine goesT (some 31) Tryz.func34 #[.agg #[.int .i64 3, .int .i64 0, .string (⟨#[]⟩ : ByteArray), .bool true]] ?_; (with_reducible refine (refrainref1_Show.calls kj1 3 0 (⟨#[]⟩ : ByteArray) true t267 t268 _ A41.out).mono ?_); rintro e w61 ⟨rfl, hb⟩; refine ⟨_, rfl, ?_⟩; replace BK255 := Aside0.mk (blk_below (g := gb255) (o := .cells #[.int .i64 0, .int .i64 0, .string (⟨#[]⟩ : ByteArray), .bool false] 43 (0, 0)) (bfT2 NB255_260.out BK255.out) hb); replace BK260 := Aside0.mk (blk_below (g := gb260) (o := .cells #[.int .i64 3, .int .i64 0, .string (⟨#[]⟩ : ByteArray), .bool true] 43 (0, 0)) (by (with_reducible repeat (first | refine blk_drewN ?_ _ | refine blk_drew ?_ | refine blk_alloc ?_ _)); refine blk_put (cs := #[.int .i64 3, .int .i64 0, .string (⟨#[]⟩ : ByteArray), .bool t259]) ?_ 3 _ rfl; (with_reducible repeat (first | refine blk_drewN ?_ _ | refine blk_drew ?_ | refine blk_alloc ?_ _)); refine blk_put (cs := #[.int .i64 3, .int .i64 0, .string t258, .bool t259]) ?_ 2 _ rfl; (with_reducible repeat (first | refine blk_drewN ?_ _ | refine blk_drew ?_ | refine blk_alloc ?_ _)); refine blk_put (cs := #[.int .i64 3, .int .i64 t257, .string t258, .bool t259]) ?_ 1 _ rfl; (with_reducible repeat (first | refine blk_drewN ?_ _ | refine blk_drew ?_ | refine blk_alloc ?_ _)); refine blk_put (cs := #[.int .i64 t256, .int .i64 t257, .string t258, .bool t259]) ?_ 0 _ rfl; (with_reducible repeat (first | refine blk_drewN ?_ _ | refine blk_drew ?_ | refine blk_alloc ?_ _)); refine blk_put (cs := #[.int .i64 t256, .int .i64 t257, .string t258, .bool false]) ?_ 3 _ rfl; (with_reducible repeat (first | refine blk_drewN ?_ _ | refine blk_drew ?_ | refine blk_alloc ?_ _)); refine blk_put (cs := #[.int .i64 t256, .int .i64 t257, .string (⟨#[]⟩ : ByteArray), .bool false]) ?_ 2 _ rfl; (with_reducible repeat (first | refine blk_drewN ?_ _ | refine blk_drew ?_ | refine blk_alloc ?_ _)); refine blk_put (cs := #[.int .i64 t256, .int .i64 0, .string (⟨#[]⟩ : ByteArray), .bool false]) ?_ 1 _ rfl; (with_reducible repeat (first | refine blk_drewN ?_ _ | refine blk_drew ?_ | refine blk_alloc ?_ _)); refine blk_put (cs := #[.int .i64 0, .int .i64 0, .string (⟨#[]⟩ : ByteArray), .bool false]) ?_ 0 _ rfl; (with_reducible repeat (first | refine blk_drewN ?_ _ | refine blk_drew ?_ | refine blk_alloc ?_ _)); exact BK260.out) hb); replace HB := bsA HB hb; (try clear hb); (try clear hb2); (try clear hk); (try clear hi); have hcz62_0 : w61.cell? ⟨gb255, 0, none⟩ = some (.int .i64 0) := (blk_cell BK255.out 0).trans rfl; have hcz62_1 : w61.cell? ⟨gb255, 1, none⟩ = some (.int .i64 0) := (blk_cell BK255.out 1).trans rfl; have hcz62_2 : w61.cell? ⟨gb255, 2, none⟩ = some (.string (⟨#[]⟩ : ByteArray)) := (blk_cell BK255.out 2).trans rfl; have hcz62_3 : w61.cell? ⟨gb255, 3, none⟩ = some (.bool false) := (blk_cell BK255.out 3).trans rfl; have hfz62_0 := blk_frozen BK255.out 0; have hfz62_1 := blk_frozen BK255.out 1; have hfz62_2 := blk_frozen BK255.out 2; have hfz62_3 := blk_frozen BK255.out 3))
                refine bodyPost_ret (results_ct rfl _ _ gb255 43 #[.int .i64 0, .int .i64 0, .string (⟨#[]⟩ : ByteArray), .bool false] (0, 0) _ rfl (by (with_reducible repeat (first | refine blk_drewN ?_ _ | refine blk_drew ?_ | refine blk_alloc ?_ _)); refine blk_put (cs := #[.int .i64 0, .int .i64 0, .string (⟨#[]⟩ : ByteArray), .bool false]) ?_ 3 _ rfl; (with_reducible repeat (first | refine blk_drewN ?_ _ | refine blk_drew ?_ | refine blk_alloc ?_ _)); refine blk_put (cs := #[.int .i64 0, .int .i64 0, .string (⟨#[]⟩ : ByteArray), .bool false]) ?_ 2 _ rfl; (with_reducible repeat (first | refine blk_drewN ?_ _ | refine blk_drew ?_ | refine blk_alloc ?_ _)); refine blk_put (cs := #[.int .i64 0, .int .i64 0, .string (⟨#[]⟩ : ByteArray), .bool false]) ?_ 1 _ rfl; (with_reducible repeat (first | refine blk_drewN ?_ _ | refine blk_drew ?_ | refine blk_alloc ?_ _)); refine blk_put (cs := #[.int .i64 0, .int .i64 0, .string (⟨#[]⟩ : ByteArray), .bool false]) ?_ 0 _ rfl; (with_reducible repeat (first | refine blk_drewN ?_ _ | refine blk_drew ?_ | refine blk_alloc ?_ _)); exact BK255.out) Tryz.underlying43 rfl (by kernel_rfl)) rfl ?_
                exact ⟨by first | rfl | (simp [errW_none, errW_some] <;> rfl) | (simp [*, errW_none, errW_some] <;> rfl), hbT HB.out⟩
            · rw [if_neg c40] at H
              have c40b0 : ((bt a0 0) == 84) = false := beq_eq_false_iff_ne.mpr c40
              have c40b1 : ((bt a0 0) != 84) = true := bne_iff_ne.mpr c40
              by_cases c63 : (bt a0 0) = 70
              · rw [if_pos c63] at H
                have c63b0 : ((bt a0 0) == 70) = true := beq_iff_eq.mpr c63
                have c63b1 : ((bt a0 0) != 70) = false := bne_eq_false_iff_eq.mpr c63
                clear c63
                replace H := Option.bind_eq_some_iff.mp H
                obtain ⟨⟨t269, t270⟩, A640, H⟩ := H
                replace H : (if t270 = 0 then (if t269.toList = a0.toList then (some (3, 0, (⟨#[]⟩ : ByteArray), false, 0)) else (some (0, 0, (⟨#[]⟩ : ByteArray), false, 12))) else (some (0, 0, (⟨#[]⟩ : ByteArray), false, 12))) = some (r1, r2, r3, r4, r5) := H
                have A64 := Aside0.mk A640
                clear A640
                by_cases c65 : t270 = 0
                · rw [if_pos c65] at H
                  have c65b0 : (t270 == 0) = true := beq_iff_eq.mpr c65
                  have c65b1 : (t270 != 0) = false := bne_eq_false_iff_eq.mpr c65
                  clear c65
                  by_cases c66 : t269.toList = a0.toList
                  · rw [if_pos c66] at H
                    have c66b0 : (t269.toList == a0.toList) = true := beq_iff_eq.mpr c66
                    have c66b1 : (t269.toList != a0.toList) = false := bne_eq_false_iff_eq.mpr c66
                    clear c66
                    simp only [Option.some.injEq, Prod.mk.injEq] at H
                    obtain ⟨rfl, rfl, rfl, rfl, rfl⟩ := H
                    go_wp2_with (first | ((with_reducible refine gate_callee (f := 64) rfl ?_); refine goesT (some 16) Tryz.func64 #[.string a0] ?_; (with_reducible refine (refrainref1_guessed.calls kj1 a0 t256 t257 t258 t259 _ A7.out).mono ?_); rintro e w67 ⟨rfl, hb⟩; refine ⟨_, rfl, ?_⟩; replace BK255 := bbA BK255 hb; replace HB := bsA HB hb; (try clear hb); (try clear hb2); (try clear hk); (try clear hi)) | ((with_reducible refine gate_dst (N := 4) rfl ?_); refine box_event ?hg (N := 4) ?hd (cs := #[.int .i64 0, .int .i64 0, .string (⟨#[]⟩ : ByteArray), .bool false]) (t := 43) ?hr ?_; (case hd => rfl); (case hg => rfl); (case hr => first | (go_simp; done) | (go_simp; rfl)); intro gb260 hg w68 hbox hb; have BK260 := Aside0.mk hbox; have GW260 := geA hg HB; have GE260 := geA hg HB; have NB255_260 := neA hg BK255; have NB260_255 := neB hg BK255; replace BK255 := bbA BK255 hb; replace HB := bsA HB hb; clear hb hbox hg; have hnb69 := NB260_255.out; have hnc69 := NB255_260.out; have hcz70_0 : w68.cell? ⟨gb260, 0, none⟩ = some (.int .i64 0) := (blk_cell BK260.out 0).trans rfl; have hcz70_1 : w68.cell? ⟨gb260, 1, none⟩ = some (.int .i64 0) := (blk_cell BK260.out 1).trans rfl; have hcz70_2 : w68.cell? ⟨gb260, 2, none⟩ = some (.string (⟨#[]⟩ : ByteArray)) := (blk_cell BK260.out 2).trans rfl; have hcz70_3 : w68.cell? ⟨gb260, 3, none⟩ = some (.bool false) := (blk_cell BK260.out 3).trans rfl; have hfz70_0 := blk_frozen BK260.out 0; have hfz70_1 := blk_frozen BK260.out 1; have hfz70_2 := blk_frozen BK260.out 2; have hfz70_3 := blk_frozen BK260.out 3; have p9 : 0 ≤ (0 : Int) := (by omega); have q9 : 0 < a0.size := (by have : (0 : Int) < (a0.size : Int) := of_decide_eq_true (by first | (with_reducible assumption) | assumption); omega); have hx9 : ∀ h : 0 < a0.size, ((a0[0]'h).toNat : Int) = bt a0 0 := bt_at a0 0; clear p9; have qi9 : (0 < (a0.size : Int)) = True := eq_true (of_decide_eq_true (by first | (with_reducible assumption) | assumption)); replace q9 := eq_true q9) | ((with_reducible refine gate_callee (f := 34) rfl ?_); refine goesT (some 31) Tryz.func34 #[.agg #[.int .i64 3, .int .i64 0, .string (⟨#[]⟩ : ByteArray), .bool false]] ?_; (with_reducible refine (refrainref1_Show.calls kj1 3 0 (⟨#[]⟩ : ByteArray) false t269 t270 _ A64.out).mono ?_); rintro e w71 ⟨rfl, hb⟩; refine ⟨_, rfl, ?_⟩; replace BK255 := Aside0.mk (blk_below (g := gb255) (o := .cells #[.int .i64 0, .int .i64 0, .string (⟨#[]⟩ : ByteArray), .bool false] 43 (0, 0)) (bfT2 NB255_260.out BK255.out) hb); replace BK260 := Aside0.mk (blk_below (g := gb260) (o := .cells #[.int .i64 3, .int .i64 0, .string (⟨#[]⟩ : ByteArray), .bool false] 43 (0, 0)) (by (with_reducible repeat (first | refine blk_drewN ?_ _ | refine blk_drew ?_ | refine blk_alloc ?_ _)); refine blk_put (cs := #[.int .i64 3, .int .i64 0, .string (⟨#[]⟩ : ByteArray), .bool t259]) ?_ 3 _ rfl; (with_reducible repeat (first | refine blk_drewN ?_ _ | refine blk_drew ?_ | refine blk_alloc ?_ _)); refine blk_put (cs := #[.int .i64 3, .int .i64 0, .string t258, .bool t259]) ?_ 2 _ rfl; (with_reducible repeat (first | refine blk_drewN ?_ _ | refine blk_drew ?_ | refine blk_alloc ?_ _)); refine blk_put (cs := #[.int .i64 3, .int .i64 t257, .string t258, .bool t259]) ?_ 1 _ rfl; (with_reducible repeat (first | refine blk_drewN ?_ _ | refine blk_drew ?_ | refine blk_alloc ?_ _)); refine blk_put (cs := #[.int .i64 t256, .int .i64 t257, .string t258, .bool t259]) ?_ 0 _ rfl; (with_reducible repeat (first | refine blk_drewN ?_ _ | refine blk_drew ?_ | refine blk_alloc ?_ _)); refine blk_put (cs := #[.int .i64 t256, .int .i64 t257, .string t258, .bool false]) ?_ 3 _ rfl; (with_reducible repeat (first | refine blk_drewN ?_ _ | refine blk_drew ?_ | refine blk_alloc ?_ _)); refine blk_put (cs := #[.int .i64 t256, .int .i64 t257, .string (⟨#[]⟩ : ByteArray), .bool false]) ?_ 2 _ rfl; (with_reducible repeat (first | refine blk_drewN ?_ _ | refine blk_drew ?_ | refine blk_alloc ?_ _)); refine blk_put (cs := #[.int .i64 t256, .int .i64 0, .string (⟨#[]⟩ : ByteArray), .bool false]) ?_ 1 _ rfl; (with_reducible repeat (first | refine blk_drewN ?_ _ | refine blk_drew ?_ | refine blk_alloc ?_ _)); refine blk_put (cs := #[.int .i64 0, .int .i64 0, .string (⟨#[]⟩ : ByteArray), .bool false]) ?_ 0 _ rfl; (with_reducible repeat (first | refine blk_drewN ?_ _ | refine blk_drew ?_ | refine blk_alloc ?_ _)); exact BK260.out) hb); replace HB := bsA HB hb; (try clear hb); (try clear hb2); (try clear hk); (try clear hi); have hcz72_0 : w71.cell? ⟨gb260, 0, none⟩ = some (.int .i64 3) := (blk_cell BK260.out 0).trans rfl; have hcz72_1 : w71.cell? ⟨gb260, 1, none⟩ = some (.int .i64 0) := (blk_cell BK260.out 1).trans rfl; have hcz72_2 : w71.cell? ⟨gb260, 2, none⟩ = some (.string (⟨#[]⟩ : ByteArray)) := (blk_cell BK260.out 2).trans rfl; have hcz72_3 : w71.cell? ⟨gb260, 3, none⟩ = some (.bool false) := (blk_cell BK260.out 3).trans rfl; have hfz72_0 := blk_frozen BK260.out 0; have hfz72_1 := blk_frozen BK260.out 1; have hfz72_2 := blk_frozen BK260.out 2; have hfz72_3 := blk_frozen BK260.out 3; have hcz73_0 : w71.cell? ⟨gb255, 0, none⟩ = some (.int .i64 0) := (blk_cell BK255.out 0).trans rfl; have hcz73_1 : w71.cell? ⟨gb255, 1, none⟩ = some (.int .i64 0) := (blk_cell BK255.out 1).trans rfl; have hcz73_2 : w71.cell? ⟨gb255, 2, none⟩ = some (.string (⟨#[]⟩ : ByteArray)) := (blk_cell BK255.out 2).trans rfl; have hcz73_3 : w71.cell? ⟨gb255, 3, none⟩ = some (.bool false) := (blk_cell BK255.out 3).trans rfl; have hfz73_0 := blk_frozen BK255.out 0; have hfz73_1 := blk_frozen BK255.out 1; have hfz73_2 := blk_frozen BK255.out 2; have hfz73_3 := blk_frozen BK255.out 3))
                    refine bodyPost_ret (results_ct rfl _ _ gb255 43 #[.int .i64 3, .int .i64 0, .string (⟨#[]⟩ : ByteArray), .bool false] (0, 0) _ rfl (by (with_reducible repeat (first | refine blk_drewN ?_ _ | refine blk_drew ?_ | refine blk_alloc ?_ _)); refine blk_put (cs := #[.int .i64 3, .int .i64 0, .string (⟨#[]⟩ : ByteArray), .bool false]) ?_ 3 _ rfl; (with_reducible repeat (first | refine blk_drewN ?_ _ | refine blk_drew ?_ | refine blk_alloc ?_ _)); refine blk_put (cs := #[.int .i64 3, .int .i64 0, .string (⟨#[]⟩ : ByteArray), .bool false]) ?_ 2 _ rfl; (with_reducible repeat (first | refine blk_drewN ?_ _ | refine blk_drew ?_ | refine blk_alloc ?_ _)); refine blk_put (cs := #[.int .i64 3, .int .i64 0, .string (⟨#[]⟩ : ByteArray), .bool false]) ?_ 1 _ rfl; (with_reducible repeat (first | refine blk_drewN ?_ _ | refine blk_drew ?_ | refine blk_alloc ?_ _)); refine blk_put (cs := #[.int .i64 0, .int .i64 0, .string (⟨#[]⟩ : ByteArray), .bool false]) ?_ 0 _ rfl; (with_reducible repeat (first | refine blk_drewN ?_ _ | refine blk_drew ?_ | refine blk_alloc ?_ _)); exact BK255.out) Tryz.underlying43 rfl (by kernel_rfl)) rfl ?_
                    exact ⟨by first | rfl | (simp [errW_none, errW_some] <;> rfl) | (simp [*, errW_none, errW_some] <;> rfl), hbT HB.out⟩
                  · rw [if_neg c66] at H
                    have c66b0 : (t269.toList == a0.toList) = false := beq_eq_false_iff_ne.mpr c66
                    have c66b1 : (t269.toList != a0.toList) = true := bne_iff_ne.mpr c66
                    simp only [Option.some.injEq, Prod.mk.injEq] at H
                    obtain ⟨rfl, rfl, rfl, rfl, rfl⟩ := H
                    go_wp2_with (first | ((with_reducible refine gate_callee (f := 64) rfl ?_); refine goesT (some 16) Tryz.func64 #[.string a0] ?_; (with_reducible refine (refrainref1_guessed.calls kj1 a0 t256 t257 t258 t259 _ A7.out).mono ?_); rintro e w74 ⟨rfl, hb⟩; refine ⟨_, rfl, ?_⟩; replace BK255 := bbA BK255 hb; replace HB := bsA HB hb; (try clear hb); (try clear hb2); (try clear hk); (try clear hi)) | ((with_reducible refine gate_dst (N := 4) rfl ?_); refine box_event ?hg (N := 4) ?hd (cs := #[.int .i64 0, .int .i64 0, .string (⟨#[]⟩ : ByteArray), .bool false]) (t := 43) ?hr ?_; (case hd => rfl); (case hg => rfl); (case hr => first | (go_simp; done) | (go_simp; rfl)); intro gb260 hg w75 hbox hb; have BK260 := Aside0.mk hbox; have GW260 := geA hg HB; have GE260 := geA hg HB; have NB255_260 := neA hg BK255; have NB260_255 := neB hg BK255; replace BK255 := bbA BK255 hb; replace HB := bsA HB hb; clear hb hbox hg; have hnb76 := NB260_255.out; have hnc76 := NB255_260.out; have hcz77_0 : w75.cell? ⟨gb260, 0, none⟩ = some (.int .i64 0) := (blk_cell BK260.out 0).trans rfl; have hcz77_1 : w75.cell? ⟨gb260, 1, none⟩ = some (.int .i64 0) := (blk_cell BK260.out 1).trans rfl; have hcz77_2 : w75.cell? ⟨gb260, 2, none⟩ = some (.string (⟨#[]⟩ : ByteArray)) := (blk_cell BK260.out 2).trans rfl; have hcz77_3 : w75.cell? ⟨gb260, 3, none⟩ = some (.bool false) := (blk_cell BK260.out 3).trans rfl; have hfz77_0 := blk_frozen BK260.out 0; have hfz77_1 := blk_frozen BK260.out 1; have hfz77_2 := blk_frozen BK260.out 2; have hfz77_3 := blk_frozen BK260.out 3; have p9 : 0 ≤ (0 : Int) := (by omega); have q9 : 0 < a0.size := (by have : (0 : Int) < (a0.size : Int) := of_decide_eq_true (by first | (with_reducible assumption) | assumption); omega); have hx9 : ∀ h : 0 < a0.size, ((a0[0]'h).toNat : Int) = bt a0 0 := bt_at a0 0; clear p9; have qi9 : (0 < (a0.size : Int)) = True := eq_true (of_decide_eq_true (by first | (with_reducible assumption) | assumption)); replace q9 := eq_true q9) | ((with_reducible refine gate_callee (f := 34) rfl ?_); refine goesT (some 31) Tryz.func34 #[.agg #[.int .i64 3, .int .i64 0, .string (⟨#[]⟩ : ByteArray), .bool false]] ?_; (with_reducible refine (refrainref1_Show.calls kj1 3 0 (⟨#[]⟩ : ByteArray) false t269 t270 _ A64.out).mono ?_); rintro e w78 ⟨rfl, hb⟩; refine ⟨_, rfl, ?_⟩; replace BK255 := Aside0.mk (blk_below (g := gb255) (o := .cells #[.int .i64 0, .int .i64 0, .string (⟨#[]⟩ : ByteArray), .bool false] 43 (0, 0)) (bfT2 NB255_260.out BK255.out) hb); replace BK260 := Aside0.mk (blk_below (g := gb260) (o := .cells #[.int .i64 3, .int .i64 0, .string (⟨#[]⟩ : ByteArray), .bool false] 43 (0, 0)) (by (with_reducible repeat (first | refine blk_drewN ?_ _ | refine blk_drew ?_ | refine blk_alloc ?_ _)); refine blk_put (cs := #[.int .i64 3, .int .i64 0, .string (⟨#[]⟩ : ByteArray), .bool t259]) ?_ 3 _ rfl; (with_reducible repeat (first | refine blk_drewN ?_ _ | refine blk_drew ?_ | refine blk_alloc ?_ _)); refine blk_put (cs := #[.int .i64 3, .int .i64 0, .string t258, .bool t259]) ?_ 2 _ rfl; (with_reducible repeat (first | refine blk_drewN ?_ _ | refine blk_drew ?_ | refine blk_alloc ?_ _)); refine blk_put (cs := #[.int .i64 3, .int .i64 t257, .string t258, .bool t259]) ?_ 1 _ rfl; (with_reducible repeat (first | refine blk_drewN ?_ _ | refine blk_drew ?_ | refine blk_alloc ?_ _)); refine blk_put (cs := #[.int .i64 t256, .int .i64 t257, .string t258, .bool t259]) ?_ 0 _ rfl; (with_reducible repeat (first | refine blk_drewN ?_ _ | refine blk_drew ?_ | refine blk_alloc ?_ _)); refine blk_put (cs := #[.int .i64 t256, .int .i64 t257, .string t258, .bool false]) ?_ 3 _ rfl; (with_reducible repeat (first | refine blk_drewN ?_ _ | refine blk_drew ?_ | refine blk_alloc ?_ _)); refine blk_put (cs := #[.int .i64 t256, .int .i64 t257, .string (⟨#[]⟩ : ByteArray), .bool false]) ?_ 2 _ rfl; (with_reducible repeat (first | refine blk_drewN ?_ _ | refine blk_drew ?_ | refine blk_alloc ?_ _)); refine blk_put (cs := #[.int .i64 t256, .int .i64 0, .string (⟨#[]⟩ : ByteArray), .bool false]) ?_ 1 _ rfl; (with_reducible repeat (first | refine blk_drewN ?_ _ | refine blk_drew ?_ | refine blk_alloc ?_ _)); refine blk_put (cs := #[.int .i64 0, .int .i64 0, .string (⟨#[]⟩ : ByteArray), .bool false]) ?_ 0 _ rfl; (with_reducible repeat (first | refine blk_drewN ?_ _ | refine blk_drew ?_ | refine blk_alloc ?_ _)); exact BK260.out) hb); replace HB := bsA HB hb; (try clear hb); (try clear hb2); (try clear hk); (try clear hi); have hcz79_0 : w78.cell? ⟨gb255, 0, none⟩ = some (.int .i64 0) := (blk_cell BK255.out 0).trans rfl; have hcz79_1 : w78.cell? ⟨gb255, 1, none⟩ = some (.int .i64 0) := (blk_cell BK255.out 1).trans rfl; have hcz79_2 : w78.cell? ⟨gb255, 2, none⟩ = some (.string (⟨#[]⟩ : ByteArray)) := (blk_cell BK255.out 2).trans rfl; have hcz79_3 : w78.cell? ⟨gb255, 3, none⟩ = some (.bool false) := (blk_cell BK255.out 3).trans rfl; have hfz79_0 := blk_frozen BK255.out 0; have hfz79_1 := blk_frozen BK255.out 1; have hfz79_2 := blk_frozen BK255.out 2; have hfz79_3 := blk_frozen BK255.out 3))
                    refine bodyPost_ret (results_ct rfl _ _ gb255 43 #[.int .i64 0, .int .i64 0, .string (⟨#[]⟩ : ByteArray), .bool false] (0, 0) _ rfl (by (with_reducible repeat (first | refine blk_drewN ?_ _ | refine blk_drew ?_ | refine blk_alloc ?_ _)); refine blk_put (cs := #[.int .i64 0, .int .i64 0, .string (⟨#[]⟩ : ByteArray), .bool false]) ?_ 3 _ rfl; (with_reducible repeat (first | refine blk_drewN ?_ _ | refine blk_drew ?_ | refine blk_alloc ?_ _)); refine blk_put (cs := #[.int .i64 0, .int .i64 0, .string (⟨#[]⟩ : ByteArray), .bool false]) ?_ 2 _ rfl; (with_reducible repeat (first | refine blk_drewN ?_ _ | refine blk_drew ?_ | refine blk_alloc ?_ _)); refine blk_put (cs := #[.int .i64 0, .int .i64 0, .string (⟨#[]⟩ : ByteArray), .bool false]) ?_ 1 _ rfl; (with_reducible repeat (first | refine blk_drewN ?_ _ | refine blk_drew ?_ | refine blk_alloc ?_ _)); refine blk_put (cs := #[.int .i64 0, .int .i64 0, .string (⟨#[]⟩ : ByteArray), .bool false]) ?_ 0 _ rfl; (with_reducible repeat (first | refine blk_drewN ?_ _ | refine blk_drew ?_ | refine blk_alloc ?_ _)); exact BK255.out) Tryz.underlying43 rfl (by kernel_rfl)) rfl ?_
                    exact ⟨by first | rfl | (simp [errW_none, errW_some] <;> rfl) | (simp [*, errW_none, errW_some] <;> rfl), hbT HB.out⟩
                · rw [if_neg c65] at H
                  have c65b0 : (t270 == 0) = false := beq_eq_false_iff_ne.mpr c65
                  have c65b1 : (t270 != 0) = true := bne_iff_ne.mpr c65
                  simp only [Option.some.injEq, Prod.mk.injEq] at H
                  obtain ⟨rfl, rfl, rfl, rfl, rfl⟩ := H
                  go_wp2_with (first | ((with_reducible refine gate_callee (f := 64) rfl ?_); refine goesT (some 16) Tryz.func64 #[.string a0] ?_; (with_reducible refine (refrainref1_guessed.calls kj1 a0 t256 t257 t258 t259 _ A7.out).mono ?_); rintro e w80 ⟨rfl, hb⟩; refine ⟨_, rfl, ?_⟩; replace BK255 := bbA BK255 hb; replace HB := bsA HB hb; (try clear hb); (try clear hb2); (try clear hk); (try clear hi)) | ((with_reducible refine gate_dst (N := 4) rfl ?_); refine box_event ?hg (N := 4) ?hd (cs := #[.int .i64 0, .int .i64 0, .string (⟨#[]⟩ : ByteArray), .bool false]) (t := 43) ?hr ?_; (case hd => rfl); (case hg => rfl); (case hr => first | (go_simp; done) | (go_simp; rfl)); intro gb260 hg w81 hbox hb; have BK260 := Aside0.mk hbox; have GW260 := geA hg HB; have GE260 := geA hg HB; have NB255_260 := neA hg BK255; have NB260_255 := neB hg BK255; replace BK255 := bbA BK255 hb; replace HB := bsA HB hb; clear hb hbox hg; have hnb82 := NB260_255.out; have hnc82 := NB255_260.out; have hcz83_0 : w81.cell? ⟨gb260, 0, none⟩ = some (.int .i64 0) := (blk_cell BK260.out 0).trans rfl; have hcz83_1 : w81.cell? ⟨gb260, 1, none⟩ = some (.int .i64 0) := (blk_cell BK260.out 1).trans rfl; have hcz83_2 : w81.cell? ⟨gb260, 2, none⟩ = some (.string (⟨#[]⟩ : ByteArray)) := (blk_cell BK260.out 2).trans rfl; have hcz83_3 : w81.cell? ⟨gb260, 3, none⟩ = some (.bool false) := (blk_cell BK260.out 3).trans rfl; have hfz83_0 := blk_frozen BK260.out 0; have hfz83_1 := blk_frozen BK260.out 1; have hfz83_2 := blk_frozen BK260.out 2; have hfz83_3 := blk_frozen BK260.out 3; have p9 : 0 ≤ (0 : Int) := (by omega); have q9 : 0 < a0.size := (by have : (0 : Int) < (a0.size : Int) := of_decide_eq_true (by first | (with_reducible assumption) | assumption); omega); have hx9 : ∀ h : 0 < a0.size, ((a0[0]'h).toNat : Int) = bt a0 0 := bt_at a0 0; clear p9; have qi9 : (0 < (a0.size : Int)) = True := eq_true (of_decide_eq_true (by first | (with_reducible assumption) | assumption)); replace q9 := eq_true q9) | ((with_reducible refine gate_callee (f := 34) rfl ?_); refine goesT (some 31) Tryz.func34 #[.agg #[.int .i64 3, .int .i64 0, .string (⟨#[]⟩ : ByteArray), .bool false]] ?_; (with_reducible refine (refrainref1_Show.calls kj1 3 0 (⟨#[]⟩ : ByteArray) false t269 t270 _ A64.out).mono ?_); rintro e w84 ⟨rfl, hb⟩; refine ⟨_, rfl, ?_⟩; replace BK255 := Aside0.mk (blk_below (g := gb255) (o := .cells #[.int .i64 0, .int .i64 0, .string (⟨#[]⟩ : ByteArray), .bool false] 43 (0, 0)) (bfT2 NB255_260.out BK255.out) hb); replace BK260 := Aside0.mk (blk_below (g := gb260) (o := .cells #[.int .i64 3, .int .i64 0, .string (⟨#[]⟩ : ByteArray), .bool false] 43 (0, 0)) (by (with_reducible repeat (first | refine blk_drewN ?_ _ | refine blk_drew ?_ | refine blk_alloc ?_ _)); refine blk_put (cs := #[.int .i64 3, .int .i64 0, .string (⟨#[]⟩ : ByteArray), .bool t259]) ?_ 3 _ rfl; (with_reducible repeat (first | refine blk_drewN ?_ _ | refine blk_drew ?_ | refine blk_alloc ?_ _)); refine blk_put (cs := #[.int .i64 3, .int .i64 0, .string t258, .bool t259]) ?_ 2 _ rfl; (with_reducible repeat (first | refine blk_drewN ?_ _ | refine blk_drew ?_ | refine blk_alloc ?_ _)); refine blk_put (cs := #[.int .i64 3, .int .i64 t257, .string t258, .bool t259]) ?_ 1 _ rfl; (with_reducible repeat (first | refine blk_drewN ?_ _ | refine blk_drew ?_ | refine blk_alloc ?_ _)); refine blk_put (cs := #[.int .i64 t256, .int .i64 t257, .string t258, .bool t259]) ?_ 0 _ rfl; (with_reducible repeat (first | refine blk_drewN ?_ _ | refine blk_drew ?_ | refine blk_alloc ?_ _)); refine blk_put (cs := #[.int .i64 t256, .int .i64 t257, .string t258, .bool false]) ?_ 3 _ rfl; (with_reducible repeat (first | refine blk_drewN ?_ _ | refine blk_drew ?_ | refine blk_alloc ?_ _)); refine blk_put (cs := #[.int .i64 t256, .int .i64 t257, .string (⟨#[]⟩ : ByteArray), .bool false]) ?_ 2 _ rfl; (with_reducible repeat (first | refine blk_drewN ?_ _ | refine blk_drew ?_ | refine blk_alloc ?_ _)); refine blk_put (cs := #[.int .i64 t256, .int .i64 0, .string (⟨#[]⟩ : ByteArray), .bool false]) ?_ 1 _ rfl; (with_reducible repeat (first | refine blk_drewN ?_ _ | refine blk_drew ?_ | refine blk_alloc ?_ _)); refine blk_put (cs := #[.int .i64 0, .int .i64 0, .string (⟨#[]⟩ : ByteArray), .bool false]) ?_ 0 _ rfl; (with_reducible repeat (first | refine blk_drewN ?_ _ | refine blk_drew ?_ | refine blk_alloc ?_ _)); exact BK260.out) hb); replace HB := bsA HB hb; (try clear hb); (try clear hb2); (try clear hk); (try clear hi); have hcz85_0 : w84.cell? ⟨gb255, 0, none⟩ = some (.int .i64 0) := (blk_cell BK255.out 0).trans rfl; have hcz85_1 : w84.cell? ⟨gb255, 1, none⟩ = some (.int .i64 0) := (blk_cell BK255.out 1).trans rfl; have hcz85_2 : w84.cell? ⟨gb255, 2, none⟩ = some (.string (⟨#[]⟩ : ByteArray)) := (blk_cell BK255.out 2).trans rfl; have hcz85_3 : w84.cell? ⟨gb255, 3, none⟩ = some (.bool false) := (blk_cell BK255.out 3).trans rfl; have hfz85_0 := blk_frozen BK255.out 0; have hfz85_1 := blk_frozen BK255.out 1; have hfz85_2 := blk_frozen BK255.out 2; have hfz85_3 := blk_frozen BK255.out 3))
                  refine bodyPost_ret (results_ct rfl _ _ gb255 43 #[.int .i64 0, .int .i64 0, .string (⟨#[]⟩ : ByteArray), .bool false] (0, 0) _ rfl (by (with_reducible repeat (first | refine blk_drewN ?_ _ | refine blk_drew ?_ | refine blk_alloc ?_ _)); refine blk_put (cs := #[.int .i64 0, .int .i64 0, .string (⟨#[]⟩ : ByteArray), .bool false]) ?_ 3 _ rfl; (with_reducible repeat (first | refine blk_drewN ?_ _ | refine blk_drew ?_ | refine blk_alloc ?_ _)); refine blk_put (cs := #[.int .i64 0, .int .i64 0, .string (⟨#[]⟩ : ByteArray), .bool false]) ?_ 2 _ rfl; (with_reducible repeat (first | refine blk_drewN ?_ _ | refine blk_drew ?_ | refine blk_alloc ?_ _)); refine blk_put (cs := #[.int .i64 0, .int .i64 0, .string (⟨#[]⟩ : ByteArray), .bool false]) ?_ 1 _ rfl; (with_reducible repeat (first | refine blk_drewN ?_ _ | refine blk_drew ?_ | refine blk_alloc ?_ _)); refine blk_put (cs := #[.int .i64 0, .int .i64 0, .string (⟨#[]⟩ : ByteArray), .bool false]) ?_ 0 _ rfl; (with_reducible repeat (first | refine blk_drewN ?_ _ | refine blk_drew ?_ | refine blk_alloc ?_ _)); exact BK255.out) Tryz.underlying43 rfl (by kernel_rfl)) rfl ?_
                  exact ⟨by first | rfl | (simp [errW_none, errW_some] <;> rfl) | (simp [*, errW_none, errW_some] <;> rfl), hbT HB.out⟩
              · rw [if_neg c63] at H
                have c63b0 : ((bt a0 0) == 70) = false := beq_eq_false_iff_ne.mpr c63
                have c63b1 : ((bt a0 0) != 70) = true := bne_iff_ne.mpr c63
                replace H := Option.bind_eq_some_iff.mp H
                obtain ⟨⟨t271, t272⟩, A860, H⟩ := H
                replace H : (if t272 = 0 then (if t271.toList = a0.toList then (some (t256, t257, t258, t259, 0)) else (some (0, 0, (⟨#[]⟩ : ByteArray), false, 12))) else (some (0, 0, (⟨#[]⟩ : ByteArray), false, 12))) = some (r1, r2, r3, r4, r5) := H
                have A86 := Aside0.mk A860
                clear A860
                by_cases c87 : t272 = 0
                · rw [if_pos c87] at H
                  have c87b0 : (t272 == 0) = true := beq_iff_eq.mpr c87
                  have c87b1 : (t272 != 0) = false := bne_eq_false_iff_eq.mpr c87
                  clear c87
                  by_cases c88 : t271.toList = a0.toList
                  · rw [if_pos c88] at H
                    have c88b0 : (t271.toList == a0.toList) = true := beq_iff_eq.mpr c88
                    have c88b1 : (t271.toList != a0.toList) = false := bne_eq_false_iff_eq.mpr c88
                    clear c88
                    simp only [Option.some.injEq, Prod.mk.injEq] at H
                    obtain ⟨rfl, rfl, rfl, rfl, rfl⟩ := H
                    go_wp2_with (first | ((with_reducible refine gate_callee (f := 64) rfl ?_); refine goesT (some 16) Tryz.func64 #[.string a0] ?_; (with_reducible refine (refrainref1_guessed.calls kj1 a0 t256 t257 t258 t259 _ A7.out).mono ?_); rintro e w89 ⟨rfl, hb⟩; refine ⟨_, rfl, ?_⟩; replace BK255 := bbA BK255 hb; replace HB := bsA HB hb; (try clear hb); (try clear hb2); (try clear hk); (try clear hi)) | ((with_reducible refine gate_dst (N := 4) rfl ?_); refine box_event ?hg (N := 4) ?hd (cs := #[.int .i64 0, .int .i64 0, .string (⟨#[]⟩ : ByteArray), .bool false]) (t := 43) ?hr ?_; (case hd => rfl); (case hg => rfl); (case hr => first | (go_simp; done) | (go_simp; rfl)); intro gb260 hg w90 hbox hb; have BK260 := Aside0.mk hbox; have GW260 := geA hg HB; have GE260 := geA hg HB; have NB255_260 := neA hg BK255; have NB260_255 := neB hg BK255; replace BK255 := bbA BK255 hb; replace HB := bsA HB hb; clear hb hbox hg; have hnb91 := NB260_255.out; have hnc91 := NB255_260.out; have hcz92_0 : w90.cell? ⟨gb260, 0, none⟩ = some (.int .i64 0) := (blk_cell BK260.out 0).trans rfl; have hcz92_1 : w90.cell? ⟨gb260, 1, none⟩ = some (.int .i64 0) := (blk_cell BK260.out 1).trans rfl; have hcz92_2 : w90.cell? ⟨gb260, 2, none⟩ = some (.string (⟨#[]⟩ : ByteArray)) := (blk_cell BK260.out 2).trans rfl; have hcz92_3 : w90.cell? ⟨gb260, 3, none⟩ = some (.bool false) := (blk_cell BK260.out 3).trans rfl; have hfz92_0 := blk_frozen BK260.out 0; have hfz92_1 := blk_frozen BK260.out 1; have hfz92_2 := blk_frozen BK260.out 2; have hfz92_3 := blk_frozen BK260.out 3; have p9 : 0 ≤ (0 : Int) := (by omega); have q9 : 0 < a0.size := (by have : (0 : Int) < (a0.size : Int) := of_decide_eq_true (by first | (with_reducible assumption) | assumption); omega); have hx9 : ∀ h : 0 < a0.size, ((a0[0]'h).toNat : Int) = bt a0 0 := bt_at a0 0; clear p9; have qi9 : (0 < (a0.size : Int)) = True := eq_true (of_decide_eq_true (by first | (with_reducible assumption) | assumption)); replace q9 := eq_true q9) | ((with_reducible refine gate_callee (f := 34) rfl ?_); refine goesT (some 31) Tryz.func34 #[.agg #[.int .i64 t256, .int .i64 t257, .string t258, .bool t259]] ?_; (with_reducible refine (refrainref1_Show.calls kj1 t256 t257 t258 t259 t271 t272 _ A86.out).mono ?_); rintro e w93 ⟨rfl, hb⟩; refine ⟨_, rfl, ?_⟩; replace BK255 := Aside0.mk (blk_below (g := gb255) (o := .cells #[.int .i64 0, .int .i64 0, .string (⟨#[]⟩ : ByteArray), .bool false] 43 (0, 0)) (bfT2 NB255_260.out BK255.out) hb); replace BK260 := Aside0.mk (blk_below (g := gb260) (o := .cells #[.int .i64 t256, .int .i64 t257, .string t258, .bool t259] 43 (0, 0)) (by (with_reducible repeat (first | refine blk_drewN ?_ _ | refine blk_drew ?_ | refine blk_alloc ?_ _)); refine blk_put (cs := #[.int .i64 t256, .int .i64 t257, .string t258, .bool false]) ?_ 3 _ rfl; (with_reducible repeat (first | refine blk_drewN ?_ _ | refine blk_drew ?_ | refine blk_alloc ?_ _)); refine blk_put (cs := #[.int .i64 t256, .int .i64 t257, .string (⟨#[]⟩ : ByteArray), .bool false]) ?_ 2 _ rfl; (with_reducible repeat (first | refine blk_drewN ?_ _ | refine blk_drew ?_ | refine blk_alloc ?_ _)); refine blk_put (cs := #[.int .i64 t256, .int .i64 0, .string (⟨#[]⟩ : ByteArray), .bool false]) ?_ 1 _ rfl; (with_reducible repeat (first | refine blk_drewN ?_ _ | refine blk_drew ?_ | refine blk_alloc ?_ _)); refine blk_put (cs := #[.int .i64 0, .int .i64 0, .string (⟨#[]⟩ : ByteArray), .bool false]) ?_ 0 _ rfl; (with_reducible repeat (first | refine blk_drewN ?_ _ | refine blk_drew ?_ | refine blk_alloc ?_ _)); exact BK260.out) hb); replace HB := bsA HB hb; (try clear hb); (try clear hb2); (try clear hk); (try clear hi); have hcz94_0 : w93.cell? ⟨gb260, 0, none⟩ = some (.int .i64 t256) := (blk_cell BK260.out 0).trans rfl; have hcz94_1 : w93.cell? ⟨gb260, 1, none⟩ = some (.int .i64 t257) := (blk_cell BK260.out 1).trans rfl; have hcz94_2 : w93.cell? ⟨gb260, 2, none⟩ = some (.string t258) := (blk_cell BK260.out 2).trans rfl; have hcz94_3 : w93.cell? ⟨gb260, 3, none⟩ = some (.bool t259) := (blk_cell BK260.out 3).trans rfl; have hfz94_0 := blk_frozen BK260.out 0; have hfz94_1 := blk_frozen BK260.out 1; have hfz94_2 := blk_frozen BK260.out 2; have hfz94_3 := blk_frozen BK260.out 3; have hcz95_0 : w93.cell? ⟨gb255, 0, none⟩ = some (.int .i64 0) := (blk_cell BK255.out 0).trans rfl; have hcz95_1 : w93.cell? ⟨gb255, 1, none⟩ = some (.int .i64 0) := (blk_cell BK255.out 1).trans rfl; have hcz95_2 : w93.cell? ⟨gb255, 2, none⟩ = some (.string (⟨#[]⟩ : ByteArray)) := (blk_cell BK255.out 2).trans rfl; have hcz95_3 : w93.cell? ⟨gb255, 3, none⟩ = some (.bool false) := (blk_cell BK255.out 3).trans rfl; have hfz95_0 := blk_frozen BK255.out 0; have hfz95_1 := blk_frozen BK255.out 1; have hfz95_2 := blk_frozen BK255.out 2; have hfz95_3 := blk_frozen BK255.out 3))
                    refine bodyPost_ret (results_ct rfl _ _ gb255 43 #[.int .i64 t256, .int .i64 t257, .string t258, .bool t259] (0, 0) _ rfl (by (with_reducible repeat (first | refine blk_drewN ?_ _ | refine blk_drew ?_ | refine blk_alloc ?_ _)); refine blk_put (cs := #[.int .i64 t256, .int .i64 t257, .string t258, .bool false]) ?_ 3 _ rfl; (with_reducible repeat (first | refine blk_drewN ?_ _ | refine blk_drew ?_ | refine blk_alloc ?_ _)); refine blk_put (cs := #[.int .i64 t256, .int .i64 t257, .string (⟨#[]⟩ : ByteArray), .bool false]) ?_ 2 _ rfl; (with_reducible repeat (first | refine blk_drewN ?_ _ | refine blk_drew ?_ | refine blk_alloc ?_ _)); refine blk_put (cs := #[.int .i64 t256, .int .i64 0, .string (⟨#[]⟩ : ByteArray), .bool false]) ?_ 1 _ rfl; (with_reducible repeat (first | refine blk_drewN ?_ _ | refine blk_drew ?_ | refine blk_alloc ?_ _)); refine blk_put (cs := #[.int .i64 0, .int .i64 0, .string (⟨#[]⟩ : ByteArray), .bool false]) ?_ 0 _ rfl; (with_reducible repeat (first | refine blk_drewN ?_ _ | refine blk_drew ?_ | refine blk_alloc ?_ _)); exact BK255.out) Tryz.underlying43 rfl (by kernel_rfl)) rfl ?_
                    exact ⟨by first | rfl | (simp [errW_none, errW_some] <;> rfl) | (simp [*, errW_none, errW_some] <;> rfl), hbT HB.out⟩
                  · rw [if_neg c88] at H
                    have c88b0 : (t271.toList == a0.toList) = false := beq_eq_false_iff_ne.mpr c88
                    have c88b1 : (t271.toList != a0.toList) = true := bne_iff_ne.mpr c88
                    simp only [Option.some.injEq, Prod.mk.injEq] at H
                    obtain ⟨rfl, rfl, rfl, rfl, rfl⟩ := H
                    go_wp2_with (first | ((with_reducible refine gate_callee (f := 64) rfl ?_); refine goesT (some 16) Tryz.func64 #[.string a0] ?_; (with_reducible refine (refrainref1_guessed.calls kj1 a0 t256 t257 t258 t259 _ A7.out).mono ?_); rintro e w96 ⟨rfl, hb⟩; refine ⟨_, rfl, ?_⟩; replace BK255 := bbA BK255 hb; replace HB := bsA HB hb; (try clear hb); (try clear hb2); (try clear hk); (try clear hi)) | ((with_reducible refine gate_dst (N := 4) rfl ?_); refine box_event ?hg (N := 4) ?hd (cs := #[.int .i64 0, .int .i64 0, .string (⟨#[]⟩ : ByteArray), .bool false]) (t := 43) ?hr ?_; (case hd => rfl); (case hg => rfl); (case hr => first | (go_simp; done) | (go_simp; rfl)); intro gb260 hg w97 hbox hb; have BK260 := Aside0.mk hbox; have GW260 := geA hg HB; have GE260 := geA hg HB; have NB255_260 := neA hg BK255; have NB260_255 := neB hg BK255; replace BK255 := bbA BK255 hb; replace HB := bsA HB hb; clear hb hbox hg; have hnb98 := NB260_255.out; have hnc98 := NB255_260.out; have hcz99_0 : w97.cell? ⟨gb260, 0, none⟩ = some (.int .i64 0) := (blk_cell BK260.out 0).trans rfl; have hcz99_1 : w97.cell? ⟨gb260, 1, none⟩ = some (.int .i64 0) := (blk_cell BK260.out 1).trans rfl; have hcz99_2 : w97.cell? ⟨gb260, 2, none⟩ = some (.string (⟨#[]⟩ : ByteArray)) := (blk_cell BK260.out 2).trans rfl; have hcz99_3 : w97.cell? ⟨gb260, 3, none⟩ = some (.bool false) := (blk_cell BK260.out 3).trans rfl; have hfz99_0 := blk_frozen BK260.out 0; have hfz99_1 := blk_frozen BK260.out 1; have hfz99_2 := blk_frozen BK260.out 2; have hfz99_3 := blk_frozen BK260.out 3; have p9 : 0 ≤ (0 : Int) := (by omega); have q9 : 0 < a0.size := (by have : (0 : Int) < (a0.size : Int) := of_decide_eq_true (by first | (with_reducible assumption) | assumption); omega); have hx9 : ∀ h : 0 < a0.size, ((a0[0]'h).toNat : Int) = bt a0 0 := bt_at a0 0; clear p9; have qi9 : (0 < (a0.size : Int)) = True := eq_true (of_decide_eq_true (by first | (with_reducible assumption) | assumption)); replace q9 := eq_true q9) | ((with_reducible refine gate_callee (f := 34) rfl ?_); refine goesT (some 31) Tryz.func34 #[.agg #[.int .i64 t256, .int .i64 t257, .string t258, .bool t259]] ?_; (with_reducible refine (refrainref1_Show.calls kj1 t256 t257 t258 t259 t271 t272 _ A86.out).mono ?_); rintro e w100 ⟨rfl, hb⟩; refine ⟨_, rfl, ?_⟩; replace BK255 := Aside0.mk (blk_below (g := gb255) (o := .cells #[.int .i64 0, .int .i64 0, .string (⟨#[]⟩ : ByteArray), .bool false] 43 (0, 0)) (bfT2 NB255_260.out BK255.out) hb); replace BK260 := Aside0.mk (blk_below (g := gb260) (o := .cells #[.int .i64 t256, .int .i64 t257, .string t258, .bool t259] 43 (0, 0)) (by (with_reducible repeat (first | refine blk_drewN ?_ _ | refine blk_drew ?_ | refine blk_alloc ?_ _)); refine blk_put (cs := #[.int .i64 t256, .int .i64 t257, .string t258, .bool false]) ?_ 3 _ rfl; (with_reducible repeat (first | refine blk_drewN ?_ _ | refine blk_drew ?_ | refine blk_alloc ?_ _)); refine blk_put (cs := #[.int .i64 t256, .int .i64 t257, .string (⟨#[]⟩ : ByteArray), .bool false]) ?_ 2 _ rfl; (with_reducible repeat (first | refine blk_drewN ?_ _ | refine blk_drew ?_ | refine blk_alloc ?_ _)); refine blk_put (cs := #[.int .i64 t256, .int .i64 0, .string (⟨#[]⟩ : ByteArray), .bool false]) ?_ 1 _ rfl; (with_reducible repeat (first | refine blk_drewN ?_ _ | refine blk_drew ?_ | refine blk_alloc ?_ _)); refine blk_put (cs := #[.int .i64 0, .int .i64 0, .string (⟨#[]⟩ : ByteArray), .bool false]) ?_ 0 _ rfl; (with_reducible repeat (first | refine blk_drewN ?_ _ | refine blk_drew ?_ | refine blk_alloc ?_ _)); exact BK260.out) hb); replace HB := bsA HB hb; (try clear hb); (try clear hb2); (try clear hk); (try clear hi); have hcz101_0 : w100.cell? ⟨gb255, 0, none⟩ = some (.int .i64 0) := (blk_cell BK255.out 0).trans rfl; have hcz101_1 : w100.cell? ⟨gb255, 1, none⟩ = some (.int .i64 0) := (blk_cell BK255.out 1).trans rfl; have hcz101_2 : w100.cell? ⟨gb255, 2, none⟩ = some (.string (⟨#[]⟩ : ByteArray)) := (blk_cell BK255.out 2).trans rfl; have hcz101_3 : w100.cell? ⟨gb255, 3, none⟩ = some (.bool false) := (blk_cell BK255.out 3).trans rfl; have hfz101_0 := blk_frozen BK255.out 0; have hfz101_1 := blk_frozen BK255.out 1; have hfz101_2 := blk_frozen BK255.out 2; have hfz101_3 := blk_frozen BK255.out 3))
                    refine bodyPost_ret (results_ct rfl _ _ gb255 43 #[.int .i64 0, .int .i64 0, .string (⟨#[]⟩ : ByteArray), .bool false] (0, 0) _ rfl (by (with_reducible repeat (first | refine blk_drewN ?_ _ | refine blk_drew ?_ | refine blk_alloc ?_ _)); refine blk_put (cs := #[.int .i64 0, .int .i64 0, .string (⟨#[]⟩ : ByteArray), .bool false]) ?_ 3 _ rfl; (with_reducible repeat (first | refine blk_drewN ?_ _ | refine blk_drew ?_ | refine blk_alloc ?_ _)); refine blk_put (cs := #[.int .i64 0, .int .i64 0, .string (⟨#[]⟩ : ByteArray), .bool false]) ?_ 2 _ rfl; (with_reducible repeat (first | refine blk_drewN ?_ _ | refine blk_drew ?_ | refine blk_alloc ?_ _)); refine blk_put (cs := #[.int .i64 0, .int .i64 0, .string (⟨#[]⟩ : ByteArray), .bool false]) ?_ 1 _ rfl; (with_reducible repeat (first | refine blk_drewN ?_ _ | refine blk_drew ?_ | refine blk_alloc ?_ _)); refine blk_put (cs := #[.int .i64 0, .int .i64 0, .string (⟨#[]⟩ : ByteArray), .bool false]) ?_ 0 _ rfl; (with_reducible repeat (first | refine blk_drewN ?_ _ | refine blk_drew ?_ | refine blk_alloc ?_ _)); exact BK255.out) Tryz.underlying43 rfl (by kernel_rfl)) rfl ?_
                    exact ⟨by first | rfl | (simp [errW_none, errW_some] <;> rfl) | (simp [*, errW_none, errW_some] <;> rfl), hbT HB.out⟩
                · rw [if_neg c87] at H
                  have c87b0 : (t272 == 0) = false := beq_eq_false_iff_ne.mpr c87
                  have c87b1 : (t272 != 0) = true := bne_iff_ne.mpr c87
                  simp only [Option.some.injEq, Prod.mk.injEq] at H
                  obtain ⟨rfl, rfl, rfl, rfl, rfl⟩ := H
                  go_wp2_with (first | ((with_reducible refine gate_callee (f := 64) rfl ?_); refine goesT (some 16) Tryz.func64 #[.string a0] ?_; (with_reducible refine (refrainref1_guessed.calls kj1 a0 t256 t257 t258 t259 _ A7.out).mono ?_); rintro e w102 ⟨rfl, hb⟩; refine ⟨_, rfl, ?_⟩; replace BK255 := bbA BK255 hb; replace HB := bsA HB hb; (try clear hb); (try clear hb2); (try clear hk); (try clear hi)) | ((with_reducible refine gate_dst (N := 4) rfl ?_); refine box_event ?hg (N := 4) ?hd (cs := #[.int .i64 0, .int .i64 0, .string (⟨#[]⟩ : ByteArray), .bool false]) (t := 43) ?hr ?_; (case hd => rfl); (case hg => rfl); (case hr => first | (go_simp; done) | (go_simp; rfl)); intro gb260 hg w103 hbox hb; have BK260 := Aside0.mk hbox; have GW260 := geA hg HB; have GE260 := geA hg HB; have NB255_260 := neA hg BK255; have NB260_255 := neB hg BK255; replace BK255 := bbA BK255 hb; replace HB := bsA HB hb; clear hb hbox hg; have hnb104 := NB260_255.out; have hnc104 := NB255_260.out; have hcz105_0 : w103.cell? ⟨gb260, 0, none⟩ = some (.int .i64 0) := (blk_cell BK260.out 0).trans rfl; have hcz105_1 : w103.cell? ⟨gb260, 1, none⟩ = some (.int .i64 0) := (blk_cell BK260.out 1).trans rfl; have hcz105_2 : w103.cell? ⟨gb260, 2, none⟩ = some (.string (⟨#[]⟩ : ByteArray)) := (blk_cell BK260.out 2).trans rfl; have hcz105_3 : w103.cell? ⟨gb260, 3, none⟩ = some (.bool false) := (blk_cell BK260.out 3).trans rfl; have hfz105_0 := blk_frozen BK260.out 0; have hfz105_1 := blk_frozen BK260.out 1; have hfz105_2 := blk_frozen BK260.out 2; have hfz105_3 := blk_frozen BK260.out 3; have p9 : 0 ≤ (0 : Int) := (by omega); have q9 : 0 < a0.size := (by have : (0 : Int) < (a0.size : Int) := of_decide_eq_true (by first | (with_reducible assumption) | assumption); omega); have hx9 : ∀ h : 0 < a0.size, ((a0[0]'h).toNat : Int) = bt a0 0 := bt_at a0 0; clear p9; have qi9 : (0 < (a0.size : Int)) = True := eq_true (of_decide_eq_true (by first | (with_reducible assumption) | assumption)); replace q9 := eq_true q9) | ((with_reducible refine gate_callee (f := 34) rfl ?_); refine goesT (some 31) Tryz.func34 #[.agg #[.int .i64 t256, .int .i64 t257, .string t258, .bool t259]] ?_; (with_reducible refine (refrainref1_Show.calls kj1 t256 t257 t258 t259 t271 t272 _ A86.out).mono ?_); rintro e w106 ⟨rfl, hb⟩; refine ⟨_, rfl, ?_⟩; replace BK255 := Aside0.mk (blk_below (g := gb255) (o := .cells #[.int .i64 0, .int .i64 0, .string (⟨#[]⟩ : ByteArray), .bool false] 43 (0, 0)) (bfT2 NB255_260.out BK255.out) hb); replace BK260 := Aside0.mk (blk_below (g := gb260) (o := .cells #[.int .i64 t256, .int .i64 t257, .string t258, .bool t259] 43 (0, 0)) (by (with_reducible repeat (first | refine blk_drewN ?_ _ | refine blk_drew ?_ | refine blk_alloc ?_ _)); refine blk_put (cs := #[.int .i64 t256, .int .i64 t257, .string t258, .bool false]) ?_ 3 _ rfl; (with_reducible repeat (first | refine blk_drewN ?_ _ | refine blk_drew ?_ | refine blk_alloc ?_ _)); refine blk_put (cs := #[.int .i64 t256, .int .i64 t257, .string (⟨#[]⟩ : ByteArray), .bool false]) ?_ 2 _ rfl; (with_reducible repeat (first | refine blk_drewN ?_ _ | refine blk_drew ?_ | refine blk_alloc ?_ _)); refine blk_put (cs := #[.int .i64 t256, .int .i64 0, .string (⟨#[]⟩ : ByteArray), .bool false]) ?_ 1 _ rfl; (with_reducible repeat (first | refine blk_drewN ?_ _ | refine blk_drew ?_ | refine blk_alloc ?_ _)); refine blk_put (cs := #[.int .i64 0, .int .i64 0, .string (⟨#[]⟩ : ByteArray), .bool false]) ?_ 0 _ rfl; (with_reducible repeat (first | refine blk_drewN ?_ _ | refine blk_drew ?_ | refine blk_alloc ?_ _)); exact BK260.out) hb); replace HB := bsA HB hb; (try clear hb); (try clear hb2); (try clear hk); (try clear hi); have hcz107_0 : w106.cell? ⟨gb255, 0, none⟩ = some (.int .i64 0) := (blk_cell BK255.out 0).trans rfl; have hcz107_1 : w106.cell? ⟨gb255, 1, none⟩ = some (.int .i64 0) := (blk_cell BK255.out 1).trans rfl; have hcz107_2 : w106.cell? ⟨gb255, 2, none⟩ = some (.string (⟨#[]⟩ : ByteArray)) := (blk_cell BK255.out 2).trans rfl; have hcz107_3 : w106.cell? ⟨gb255, 3, none⟩ = some (.bool false) := (blk_cell BK255.out 3).trans rfl; have hfz107_0 := blk_frozen BK255.out 0; have hfz107_1 := blk_frozen BK255.out 1; have hfz107_2 := blk_frozen BK255.out 2; have hfz107_3 := blk_frozen BK255.out 3))
                  refine bodyPost_ret (results_ct rfl _ _ gb255 43 #[.int .i64 0, .int .i64 0, .string (⟨#[]⟩ : ByteArray), .bool false] (0, 0) _ rfl (by (with_reducible repeat (first | refine blk_drewN ?_ _ | refine blk_drew ?_ | refine blk_alloc ?_ _)); refine blk_put (cs := #[.int .i64 0, .int .i64 0, .string (⟨#[]⟩ : ByteArray), .bool false]) ?_ 3 _ rfl; (with_reducible repeat (first | refine blk_drewN ?_ _ | refine blk_drew ?_ | refine blk_alloc ?_ _)); refine blk_put (cs := #[.int .i64 0, .int .i64 0, .string (⟨#[]⟩ : ByteArray), .bool false]) ?_ 2 _ rfl; (with_reducible repeat (first | refine blk_drewN ?_ _ | refine blk_drew ?_ | refine blk_alloc ?_ _)); refine blk_put (cs := #[.int .i64 0, .int .i64 0, .string (⟨#[]⟩ : ByteArray), .bool false]) ?_ 1 _ rfl; (with_reducible repeat (first | refine blk_drewN ?_ _ | refine blk_drew ?_ | refine blk_alloc ?_ _)); refine blk_put (cs := #[.int .i64 0, .int .i64 0, .string (⟨#[]⟩ : ByteArray), .bool false]) ?_ 0 _ rfl; (with_reducible repeat (first | refine blk_drewN ?_ _ | refine blk_drew ?_ | refine blk_alloc ?_ _)); exact BK255.out) Tryz.underlying43 rfl (by kernel_rfl)) rfl ?_
                  exact ⟨by first | rfl | (simp [errW_none, errW_some] <;> rfl) | (simp [*, errW_none, errW_some] <;> rfl), hbT HB.out⟩
        · rw [if_neg c8] at H
          exact absurd H (by simp)

/-! ### refrainref4_known: function 31 -/
def refrainref4_known.f (a0 : Int) : Option (Bool) := if a0 ≥ 1 then (some (decide (a0 ≤ 3))) else (some false)
set_option maxHeartbeats 8000000 in
set_option maxRecDepth 100000 in
theorem refrainref4_known.calls (a0 : Int) (r : Bool) (w : World) (h : refrainref4_known.f a0 = some r) :
    Calls Tryz.prog 31 #[.int .i64 a0] w fun e w' => e = .returned (.bool r) ∧ Drawn0 w w' := by
  have H : (if a0 ≥ 1 then (some (decide (a0 ≤ 3))) else (some false)) = some r := h
  clear h
  by_cases c2 : a0 ≥ 1
  · rw [if_pos c2] at H
    have c2b0 : decide (1 ≤ a0) = true := decide_eq_true c2
    clear c2
    obtain rfl := Option.some.inj H
    go_enter Tryz.func31, Tryz.ntmps31
    go_wp2
    go_ret
    exact ⟨by first | rfl | (simp; done) | (simp [*]; done) | (simp; unfold wrap64; omega) | (congr 1; (try rw [Bool.eq_iff_iff]); simp [List.isEmpty_iff]; done), by repeat (first | exact Drawn0.refl _ | apply Drawn0.step)⟩
  · rw [if_neg c2] at H
    have c2b0 : decide (1 ≤ a0) = false := decide_eq_false c2
    clear c2
    obtain rfl := Option.some.inj H
    go_enter Tryz.func31, Tryz.ntmps31
    go_wp2
    go_ret
    exact ⟨by first | rfl | (simp; done) | (simp [*]; done) | (simp; unfold wrap64; omega) | (congr 1; (try rw [Bool.eq_iff_iff]); simp [List.isEmpty_iff]; done), by repeat (first | exact Drawn0.refl _ | apply Drawn0.step)⟩

/-! ### refrainref4_cell: function 32 -/
def refrainref4_cell.f (k : Nat) (a0 : Int) (a1 : ByteArray) : Option (Int × Int × ByteArray × Bool × Bool) := if a0 = 2 then (some (2, 0, a1, false, decide ((a1.size : Int) ≤ 256))) else ((refrainref1_Read.f k a1).bind fun bt274 => (if bt274.2.2.2.2 = 0 then (some (bt274.1, bt274.2.1, bt274.2.2.1, bt274.2.2.2.1, (bt274.1 == a0))) else (some (bt274.1, bt274.2.1, bt274.2.2.1, bt274.2.2.2.1, false))))
set_option maxRecDepth 100000 in
theorem refrainref4_cell.mono : ∀ a0 a1 k, LeO (refrainref4_cell.f k a0 a1) (refrainref4_cell.f (k + 1) a0 a1) := by
  intro a0 a1 k
  unfold refrainref4_cell.f
  repeat' first
      | (with_reducible exact refrainref1_Read.mono _ _)
      | (with_reducible exact LeO.refl _)
      | (with_reducible exact LeO.none _)
      | (with_reducible refine LeO.ite ?_ ?_)
      | (with_reducible refine LeO.bind ?_ (fun _ => ?_))
      | exact refrainref1_Read.mono _ _
      | exact LeO.none _
      | refine LeO.ite ?_ ?_
      | refine LeO.bind ?_ (fun _ => ?_)
def refrainref4_cell.T4 : Bool × List (List Nat × List Nat) := (true, [([], []), ([], []), ([1], [1]), ([2], [2]), ([3], [3]), ([4, 3], [3, 4]), ([3], [3]), ([5, 6, 3], [3, 5, 6]), ([3, 7], [3, 7]), ([0, 3, 0], [0]), ([8, 9, 0, 1, 2, 3, 4, 5, 6, 7, 8, 9], [8])])
def refrainref4_cell.B4 : List Nat := [0, 0, 2, 6, 14, 30, 14, 126, 254, 15, 1023]
theorem refrainref4_cell.tab4 : rtab .any (opsOf Tryz.f32 4) = refrainref4_cell.T4 := by kernel_rfl
theorem refrainref4_cell.bits4 : waitsOk refrainref4_cell.T4.2 refrainref4_cell.B4 = true := by kernel_rfl
set_option maxHeartbeats 8000000 in
set_option maxRecDepth 100000 in
theorem refrainref4_cell.calls (k : Nat) (a0 : Int) (a1 : ByteArray) (r1 : Int) (r2 : Int) (r3 : ByteArray) (r4 : Bool) (r5 : Bool) (w : World) (h : refrainref4_cell.f k a0 a1 = some (r1, r2, r3, r4, r5)) :
    Calls Tryz.prog 32 #[.int .i64 a0, .string a1] w fun e w' => e = .returned (.tuple #[.agg #[.int .i64 r1, .int .i64 r2, .string r3, .bool r4], .bool r5]) ∧ Below w.heap.size w w' := by
  have hu43 := Tryz.underlying43
  have HB := Aside0.mk (Below.refl w.heap.size w)
  have H : (if a0 = 2 then (some (2, 0, a1, false, decide ((a1.size : Int) ≤ 256))) else ((refrainref1_Read.f k a1).bind fun bt274 => (if bt274.2.2.2.2 = 0 then (some (bt274.1, bt274.2.1, bt274.2.2.1, bt274.2.2.2.1, (bt274.1 == a0))) else (some (bt274.1, bt274.2.1, bt274.2.2.1, bt274.2.2.2.1, false))))) = some (r1, r2, r3, r4, r5) := h
  clear h
  by_cases c3 : a0 = 2
  · rw [if_pos c3] at H
    have c3b0 : (a0 == 2) = true := beq_iff_eq.mpr c3
    have c3b1 : (a0 != 2) = false := bne_eq_false_iff_eq.mpr c3
    clear c3
    simp only [Option.some.injEq, Prod.mk.injEq] at H
    obtain ⟨rfl, rfl, rfl, rfl, rfl⟩ := H
    go_enter Tryz.func32, Tryz.ntmps32
    go_wp2_with (first | ((with_reducible refine gate_dst (N := 4) rfl ?_); refine box_event ?hg (N := 4) ?hd (cs := #[.int .i64 0, .int .i64 0, .string (⟨#[]⟩ : ByteArray), .bool false]) (t := 43) ?hr ?_; (case hd => rfl); (case hg => rfl); (case hr => first | (go_simp; done) | (go_simp; rfl)); intro gb273 hg w4 hbox hb; have BK273 := Aside0.mk hbox; have GW273 := geA hg HB; have GE273 := geA hg HB; replace HB := bsA HB hb; clear hb hbox hg; have hcz5_0 : w4.cell? ⟨gb273, 0, none⟩ = some (.int .i64 0) := (blk_cell BK273.out 0).trans rfl; have hcz5_1 : w4.cell? ⟨gb273, 1, none⟩ = some (.int .i64 0) := (blk_cell BK273.out 1).trans rfl; have hcz5_2 : w4.cell? ⟨gb273, 2, none⟩ = some (.string (⟨#[]⟩ : ByteArray)) := (blk_cell BK273.out 2).trans rfl; have hcz5_3 : w4.cell? ⟨gb273, 3, none⟩ = some (.bool false) := (blk_cell BK273.out 3).trans rfl; have hfz5_0 := blk_frozen BK273.out 0; have hfz5_1 := blk_frozen BK273.out 1; have hfz5_2 := blk_frozen BK273.out 2; have hfz5_3 := blk_frozen BK273.out 3))
    refine bodyPost_ret (results_ct rfl _ _ gb273 43 #[.int .i64 2, .int .i64 0, .string a1, .bool false] (0, 0) _ rfl (by (with_reducible repeat (first | refine blk_drewN ?_ _ | refine blk_drew ?_ | refine blk_alloc ?_ _)); refine blk_put (cs := #[.int .i64 2, .int .i64 0, .string a1, .bool false]) ?_ 3 _ rfl; (with_reducible repeat (first | refine blk_drewN ?_ _ | refine blk_drew ?_ | refine blk_alloc ?_ _)); refine blk_put (cs := #[.int .i64 2, .int .i64 0, .string (⟨#[]⟩ : ByteArray), .bool false]) ?_ 2 _ rfl; (with_reducible repeat (first | refine blk_drewN ?_ _ | refine blk_drew ?_ | refine blk_alloc ?_ _)); refine blk_put (cs := #[.int .i64 2, .int .i64 0, .string (⟨#[]⟩ : ByteArray), .bool false]) ?_ 1 _ rfl; (with_reducible repeat (first | refine blk_drewN ?_ _ | refine blk_drew ?_ | refine blk_alloc ?_ _)); refine blk_put (cs := #[.int .i64 0, .int .i64 0, .string (⟨#[]⟩ : ByteArray), .bool false]) ?_ 0 _ rfl; (with_reducible repeat (first | refine blk_drewN ?_ _ | refine blk_drew ?_ | refine blk_alloc ?_ _)); exact BK273.out) Tryz.underlying43 rfl (by kernel_rfl)) rfl ?_
    exact ⟨by first | rfl | (simp [errW_none, errW_some] <;> rfl) | (simp [*, errW_none, errW_some] <;> rfl), hbT HB.out⟩
  · rw [if_neg c3] at H
    have c3b0 : (a0 == 2) = false := beq_eq_false_iff_ne.mpr c3
    have c3b1 : (a0 != 2) = true := bne_iff_ne.mpr c3
    replace H := Option.bind_eq_some_iff.mp H
    obtain ⟨⟨t274, t275, t276, t277, t278⟩, A60, H⟩ := H
    replace H : (if t278 = 0 then (some (t274, t275, t276, t277, (t274 == a0))) else (some (t274, t275, t276, t277, false))) = some (r1, r2, r3, r4, r5) := H
    have A6 := Aside0.mk A60
    clear A60
    by_cases c7 : t278 = 0
    · rw [if_pos c7] at H
      have c7b0 : (t278 == 0) = true := beq_iff_eq.mpr c7
      have c7b1 : (t278 != 0) = false := bne_eq_false_iff_eq.mpr c7
      clear c7
      simp only [Option.some.injEq, Prod.mk.injEq] at H
      obtain ⟨rfl, rfl, rfl, rfl, rfl⟩ := H
      go_enter Tryz.func32, Tryz.ntmps32
      try go_wp2_with (first | ((with_reducible refine gate_dst (N := 4) rfl ?_); refine box_event ?hg (N := 4) ?hd (cs := #[.int .i64 0, .int .i64 0, .string (⟨#[]⟩ : ByteArray), .bool false]) (t := 43) ?hr ?_; (case hd => rfl); (case hg => rfl); (case hr => first | (go_simp; done) | (go_simp; rfl)); intro gb273 hg w8 hbox hb; have BK273 := Aside0.mk hbox; have GW273 := geA hg HB; have GE273 := geA hg HB; replace HB := bsA HB hb; clear hb hbox hg) | ((with_reducible refine gate_callee (f := 30) rfl ?_); refine goesT (some 17) Tryz.func30 #[.string a1] ?_; (with_reducible refine (refrainref1_Read.calls k a1 t274 t275 t276 t277 t278 _ A6.out).mono ?_); rintro e w9 ⟨rfl, hb⟩; refine ⟨_, rfl, ?_⟩; replace BK273 := bbA BK273 hb; replace HB := bsA HB hb; (try clear hb); (try clear hb2); (try clear hk); (try clear hi)) | ((with_reducible refine gate_dst (N := 6) rfl ?_); refine box_event ?hg (N := 6) ?hd (cs := #[.int .i64 0, .int .i64 0, .string (⟨#[]⟩ : ByteArray), .bool false]) (t := 43) ?hr ?_; (case hd => rfl); (case hg => rfl); (case hr => first | (go_simp; done) | (go_simp; rfl)); intro gb279 hg w10 hbox hb; have BK279 := Aside0.mk hbox; have GW279 := geA hg HB; have GE279 := geA hg HB; have NB273_279 := neA hg BK273; have NB279_273 := neB hg BK273; replace BK273 := bbA BK273 hb; replace HB := bsA HB hb; clear hb hbox hg; have hnb11 := NB279_273.out; have hnc11 := NB273_279.out; have hcz12_0 : w10.cell? ⟨gb279, 0, none⟩ = some (.int .i64 0) := (blk_cell BK279.out 0).trans rfl; have hcz12_1 : w10.cell? ⟨gb279, 1, none⟩ = some (.int .i64 0) := (blk_cell BK279.out 1).trans rfl; have hcz12_2 : w10.cell? ⟨gb279, 2, none⟩ = some (.string (⟨#[]⟩ : ByteArray)) := (blk_cell BK279.out 2).trans rfl; have hcz12_3 : w10.cell? ⟨gb279, 3, none⟩ = some (.bool false) := (blk_cell BK279.out 3).trans rfl; have hfz12_0 := blk_frozen BK279.out 0; have hfz12_1 := blk_frozen BK279.out 1; have hfz12_2 := blk_frozen BK279.out 2; have hfz12_3 := blk_frozen BK279.out 3))
      have n0_ : Aside0 (((((w10.setCell ⟨gb279, 0, none⟩ (.int .i64 t274)).setCell ⟨gb279, 1, none⟩ (.int .i64 t275)).setCell ⟨gb279, 2, none⟩ (.string t276)).setCell ⟨gb279, 3, none⟩ (.bool t277)).heap[gb273]? = some (.cells #[.int .i64 0, .int .i64 0, .string (⟨#[]⟩ : ByteArray), .bool false] 43 (0, 0))) := ⟨bfT2 NB273_279.out BK273.out⟩
      have n1_ : Aside0 (((((w10.setCell ⟨gb279, 0, none⟩ (.int .i64 t274)).setCell ⟨gb279, 1, none⟩ (.int .i64 t275)).setCell ⟨gb279, 2, none⟩ (.string t276)).setCell ⟨gb279, 3, none⟩ (.bool t277)).heap[gb279]? = some (.cells #[.int .i64 t274, .int .i64 t275, .string t276, .bool t277] 43 (0, 0))) := ⟨by (with_reducible repeat (first | refine blk_drewN ?_ _ | refine blk_drew ?_ | refine blk_alloc ?_ _)); refine blk_put (cs := #[.int .i64 t274, .int .i64 t275, .string t276, .bool false]) ?_ 3 _ rfl; (with_reducible repeat (first | refine blk_drewN ?_ _ | refine blk_drew ?_ | refine blk_alloc ?_ _)); refine blk_put (cs := #[.int .i64 t274, .int .i64 t275, .string (⟨#[]⟩ : ByteArray), .bool false]) ?_ 2 _ rfl; (with_reducible repeat (first | refine blk_drewN ?_ _ | refine blk_drew ?_ | refine blk_alloc ?_ _)); refine blk_put (cs := #[.int .i64 t274, .int .i64 0, .string (⟨#[]⟩ : ByteArray), .bool false]) ?_ 1 _ rfl; (with_reducible repeat (first | refine blk_drewN ?_ _ | refine blk_drew ?_ | refine blk_alloc ?_ _)); refine blk_put (cs := #[.int .i64 0, .int .i64 0, .string (⟨#[]⟩ : ByteArray), .bool false]) ?_ 0 _ rfl; (with_reducible repeat (first | refine blk_drewN ?_ _ | refine blk_drew ?_ | refine blk_alloc ?_ _)); exact BK279.out⟩
      have n2_ : Aside0 (Below w.heap.size w ((((w10.setCell ⟨gb279, 0, none⟩ (.int .i64 t274)).setCell ⟨gb279, 1, none⟩ (.int .i64 t275)).setCell ⟨gb279, 2, none⟩ (.string t276)).setCell ⟨gb279, 3, none⟩ (.bool t277))) := ⟨hbT HB.out⟩
      (try clear BK273)
      (try clear BK279)
      (try clear HB)
      generalize ((((w10.setCell ⟨gb279, 0, none⟩ (.int .i64 t274)).setCell ⟨gb279, 1, none⟩ (.int .i64 t275)).setCell ⟨gb279, 2, none⟩ (.string t276)).setCell ⟨gb279, 3, none⟩ (.bool t277)) = w13 at n0_ n1_ n2_ ⊢
      have BK273 := n0_
      have BK279 := n1_
      have HB := n2_
      clear n0_ n1_ n2_
      replace BK273 := bdA BK273; replace BK279 := bdA BK279; replace HB := Aside0.mk (below_drew1 HB.out)
      refine start_ (n := 11) (S := fun w' => w'.cell? ⟨gb279, 0, none⟩ = some (.int .i64 t274) ∧ w'.cell? ⟨gb279, 1, none⟩ = some (.int .i64 t275) ∧ w'.cell? ⟨gb279, 2, none⟩ = some (.string t276) ∧ w'.cell? ⟨gb279, 3, none⟩ = some (.bool t277)) (ds := []) #[false, false, false, false, false, false, false, false, false, false, false] (by kernel_rfl) rfl rfl ⟨(blk_cell BK279.out 0).trans rfl, (blk_cell BK279.out 1).trans rfl, (blk_cell BK279.out 2).trans rfl, (blk_cell BK279.out 3).trans rfl⟩ (fun hHeld => ?_); refine with_tabW refrainref4_cell.tab4 refrainref4_cell.bits4 (fun HT_ HW_ => ?_)
      generalize w13.drew = w14 at BK273 BK279 HB hHeld ⊢
      refine pure_ (i := 1) (N := some 21) (v := ?_) (a' := ?_) #[false, true, false, false, false, false, false, false, false, false, false] rfl rfl (any_of HT_.out (by kernel_rfl)) (fun _ _ _ h => h) (Or.inl ⟨by rfl, ?_⟩) ?_ ?_
      rotate_left; (focus (intro w'; go_simp; with_reducible rfl)); rotate_left; (focus (simp only [Act.put, List.setIfInBounds_toArray, List.set_cons_zero, List.set_cons_succ, i64_w, i32_w, IntKind.wrap_u8, IntKind.wrap_u16, IntKind.wrap_u32]; rfl))
      refine pure_ (i := 2) (N := some 22) (v := ?_) (a' := ?_) #[false, true, true, false, false, false, false, false, false, false, false] rfl rfl (any_of HT_.out (by kernel_rfl)) (fun _ _ _ h => h) (Or.inl ⟨by rfl, ?_⟩) ?_ ?_
      rotate_left; (focus (intro w'; go_simp; with_reducible rfl)); rotate_left; (focus (simp only [Act.put, List.setIfInBounds_toArray, List.set_cons_zero, List.set_cons_succ, i64_w, i32_w, IntKind.wrap_u8, IntKind.wrap_u16, IntKind.wrap_u32]; rfl))
      refine pure_ (i := 3) (N := some 23) (v := ?_) (a' := ?_) #[false, true, true, true, false, false, false, false, false, false, false] rfl rfl (any_of HT_.out (by kernel_rfl)) (fun _ _ _ h => h) (Or.inl ⟨by rfl, ?_⟩) ?_ ?_
      rotate_left; (focus (intro w'; go_simp; with_reducible rfl)); rotate_left; (focus (simp only [Act.put, List.setIfInBounds_toArray, List.set_cons_zero, List.set_cons_succ, i64_w, i32_w, IntKind.wrap_u8, IntKind.wrap_u16, IntKind.wrap_u32]; rfl))
      refine pure_ (i := 4) (N := some 24) (v := ?_) (a' := ?_) #[false, true, true, true, true, false, false, false, false, false, false] rfl rfl (any_of HT_.out (by kernel_rfl)) (fun _ _ _ h => h) (Or.inl ⟨by rfl, ?_⟩) ?_ ?_
      rotate_left; (focus (intro w'; go_simp; with_reducible rfl)); rotate_left; (focus (simp only [Act.put, List.setIfInBounds_toArray, List.set_cons_zero, List.set_cons_succ, i64_w, i32_w, IntKind.wrap_u8, IntKind.wrap_u16, IntKind.wrap_u32]; rfl))
      refine pure_ (i := 6) (N := some 26) (v := ?_) (a' := ?_) #[false, true, true, true, true, false, true, false, false, false, false] rfl rfl (any_of HT_.out (by kernel_rfl)) (fun _ _ _ h => h) (Or.inl ⟨by rfl, ?_⟩) ?_ ?_
      rotate_left; (focus (intro w'; go_simp; with_reducible rfl)); rotate_left; (focus (simp only [Act.put, List.setIfInBounds_toArray, List.set_cons_zero, List.set_cons_succ, i64_w, i32_w, IntKind.wrap_u8, IntKind.wrap_u16, IntKind.wrap_u32]; rfl))
      refine take_ (i := 0) (N := some 20) (v := ?_) (a' := ?_) #[true, true, true, true, true, false, true, false, false, false, false] rfl rfl (take_ofW HT_.out HW_.out (by kernel_rfl)) (fun _ _ _ h => h) (Or.inl ⟨by rfl, ?_⟩) hHeld ?_ ?_
      rotate_left; (focus (rintro w' ⟨s0, s1, s2, s3⟩; go_simp; with_reducible rfl)); rotate_left; (focus (simp only [Act.put, List.setIfInBounds_toArray, List.set_cons_zero, List.set_cons_succ, i64_w, i32_w, IntKind.wrap_u8, IntKind.wrap_u16, IntKind.wrap_u32]; rfl))
      refine take_ (i := 5) (N := some 25) (v := ?_) (a' := ?_) #[true, true, true, true, true, true, true, false, false, false, false] rfl rfl (take_ofW HT_.out HW_.out (by kernel_rfl)) (fun _ _ _ h => h) (Or.inl ⟨by rfl, ?_⟩) hHeld ?_ ?_
      rotate_left; (focus (rintro w' ⟨s0, s1, s2, s3⟩; go_simp; with_reducible rfl)); rotate_left; (focus (simp only [Act.put, List.setIfInBounds_toArray, List.set_cons_zero, List.set_cons_succ, i64_w, i32_w, IntKind.wrap_u8, IntKind.wrap_u16, IntKind.wrap_u32]; rfl))
      refine pure_ (i := 7) (N := some 27) (v := ?_) (a' := ?_) #[true, true, true, true, true, true, true, true, false, false, false] rfl rfl (any_of HT_.out (by kernel_rfl)) (fun _ _ _ h => h) (Or.inl ⟨by rfl, ?_⟩) ?_ ?_
      rotate_left; (focus (intro w'; go_simp; with_reducible rfl)); rotate_left; (focus (simp only [Act.put, List.setIfInBounds_toArray, List.set_cons_zero, List.set_cons_succ, i64_w, i32_w, IntKind.wrap_u8, IntKind.wrap_u16, IntKind.wrap_u32]; rfl))
      refine pure_ (i := 8) (N := some 28) (v := ?_) (a' := ?_) #[true, true, true, true, true, true, true, true, true, false, false] rfl rfl (any_of HT_.out (by kernel_rfl)) (fun _ _ _ h => h) (Or.inl ⟨by rfl, ?_⟩) ?_ ?_
      rotate_left; (focus (intro w'; go_simp; with_reducible rfl)); rotate_left; (focus (simp only [Act.put, List.setIfInBounds_toArray, List.set_cons_zero, List.set_cons_succ, i64_w, i32_w, IntKind.wrap_u8, IntKind.wrap_u16, IntKind.wrap_u32]; rfl))
      refine one_ (i := 9) (N := none) #[true, true, true, true, true, true, true, true, true, true, false] rfl rfl (one_of HT_.out (by kernel_rfl)) (by decide) (fun K hK => ?_)
      have hs15 : w14.cell? ⟨gb273, 0, none⟩ = some (.int .i64 0) := (blk_cell BK273.out 0).trans rfl
      have hfs15 := blk_frozen BK273.out 0; have hns15_1 := NB279_273.out; have hms15_1 := NB273_279.out
      have hs16 : w14.cell? ⟨gb273, 1, none⟩ = some (.int .i64 0) := (blk_cell BK273.out 1).trans rfl
      have hfs16 := blk_frozen BK273.out 1; have hns16_1 := NB279_273.out; have hms16_1 := NB273_279.out
      have hs17 : w14.cell? ⟨gb273, 2, none⟩ = some (.string (⟨#[]⟩ : ByteArray)) := (blk_cell BK273.out 2).trans rfl
      have hfs17 := blk_frozen BK273.out 2; have hns17_1 := NB279_273.out; have hms17_1 := NB273_279.out
      have hs18 : w14.cell? ⟨gb273, 3, none⟩ = some (.bool false) := (blk_cell BK273.out 3).trans rfl
      have hfs18 := blk_frozen BK273.out 3; have hns18_1 := NB279_273.out; have hms18_1 := NB273_279.out
      refine skip_ (w1 := ?_) (by rfl) rfl ?_ ?_
      rotate_left
      · go_simp
        rfl
      refine hK.out _ _ ⟨(cfT NB279_273.out (hHeld.1)), (cfT NB279_273.out (hHeld.2.1)), (cfT NB279_273.out (hHeld.2.2.1)), (cfT NB279_273.out (hHeld.2.2.2))⟩ (fun hHeld => ?_)
      clear hK K
      refine pure_ (i := 10) (N := some 5) (v := ?_) (a' := ?_) #[true, true, true, true, true, true, true, true, true, true, true] rfl rfl (any_of HT_.out (by kernel_rfl)) (fun _ _ _ h => h) (Or.inl ⟨by rfl, ?_⟩) ?_ ?_
      rotate_left; (focus (intro w'; go_simp; with_reducible rfl)); rotate_left; (focus (simp only [Act.put, List.setIfInBounds_toArray, List.set_cons_zero, List.set_cons_succ, i64_w, i32_w, IntKind.wrap_u8, IntKind.wrap_u16, IntKind.wrap_u32]; rfl))
      refine done_ (done_of HT_.out (by kernel_rfl)) ?_
      try go_wp2
      refine bodyPost_ret (results_ct rfl _ _ gb273 43 #[.int .i64 t274, .int .i64 t275, .string t276, .bool t277] (0, 0) _ rfl (by (with_reducible repeat (first | refine blk_drewN ?_ _ | refine blk_drew ?_ | refine blk_alloc ?_ _)); refine blk_put (cs := #[.int .i64 t274, .int .i64 t275, .string t276, .bool false]) ?_ 3 _ rfl; (with_reducible repeat (first | refine blk_drewN ?_ _ | refine blk_drew ?_ | refine blk_alloc ?_ _)); refine blk_put (cs := #[.int .i64 t274, .int .i64 t275, .string (⟨#[]⟩ : ByteArray), .bool false]) ?_ 2 _ rfl; (with_reducible repeat (first | refine blk_drewN ?_ _ | refine blk_drew ?_ | refine blk_alloc ?_ _)); refine blk_put (cs := #[.int .i64 t274, .int .i64 0, .string (⟨#[]⟩ : ByteArray), .bool false]) ?_ 1 _ rfl; (with_reducible repeat (first | refine blk_drewN ?_ _ | refine blk_drew ?_ | refine blk_alloc ?_ _)); refine blk_put (cs := #[.int .i64 0, .int .i64 0, .string (⟨#[]⟩ : ByteArray), .bool false]) ?_ 0 _ rfl; (with_reducible repeat (first | refine blk_drewN ?_ _ | refine blk_drew ?_ | refine blk_alloc ?_ _)); exact BK273.out) Tryz.underlying43 rfl (by kernel_rfl)) rfl ?_
      exact ⟨by first | rfl | (simp [errW_none, errW_some] <;> rfl) | (simp [*, errW_none, errW_some] <;> rfl), hbT HB.out⟩
    · rw [if_neg c7] at H
      have c7b0 : (t278 == 0) = false := beq_eq_false_iff_ne.mpr c7
      have c7b1 : (t278 != 0) = true := bne_iff_ne.mpr c7
      simp only [Option.some.injEq, Prod.mk.injEq] at H
      obtain ⟨rfl, rfl, rfl, rfl, rfl⟩ := H
      go_enter Tryz.func32, Tryz.ntmps32
      try go_wp2_with (first | ((with_reducible refine gate_dst (N := 4) rfl ?_); refine box_event ?hg (N := 4) ?hd (cs := #[.int .i64 0, .int .i64 0, .string (⟨#[]⟩ : ByteArray), .bool false]) (t := 43) ?hr ?_; (case hd => rfl); (case hg => rfl); (case hr => first | (go_simp; done) | (go_simp; rfl)); intro gb273 hg w19 hbox hb; have BK273 := Aside0.mk hbox; have GW273 := geA hg HB; have GE273 := geA hg HB; replace HB := bsA HB hb; clear hb hbox hg) | ((with_reducible refine gate_callee (f := 30) rfl ?_); refine goesT (some 17) Tryz.func30 #[.string a1] ?_; (with_reducible refine (refrainref1_Read.calls k a1 t274 t275 t276 t277 t278 _ A6.out).mono ?_); rintro e w20 ⟨rfl, hb⟩; refine ⟨_, rfl, ?_⟩; replace BK273 := bbA BK273 hb; replace HB := bsA HB hb; (try clear hb); (try clear hb2); (try clear hk); (try clear hi)) | ((with_reducible refine gate_dst (N := 6) rfl ?_); refine box_event ?hg (N := 6) ?hd (cs := #[.int .i64 0, .int .i64 0, .string (⟨#[]⟩ : ByteArray), .bool false]) (t := 43) ?hr ?_; (case hd => rfl); (case hg => rfl); (case hr => first | (go_simp; done) | (go_simp; rfl)); intro gb279 hg w21 hbox hb; have BK279 := Aside0.mk hbox; have GW279 := geA hg HB; have GE279 := geA hg HB; have NB273_279 := neA hg BK273; have NB279_273 := neB hg BK273; replace BK273 := bbA BK273 hb; replace HB := bsA HB hb; clear hb hbox hg; have hnb22 := NB279_273.out; have hnc22 := NB273_279.out; have hcz23_0 : w21.cell? ⟨gb279, 0, none⟩ = some (.int .i64 0) := (blk_cell BK279.out 0).trans rfl; have hcz23_1 : w21.cell? ⟨gb279, 1, none⟩ = some (.int .i64 0) := (blk_cell BK279.out 1).trans rfl; have hcz23_2 : w21.cell? ⟨gb279, 2, none⟩ = some (.string (⟨#[]⟩ : ByteArray)) := (blk_cell BK279.out 2).trans rfl; have hcz23_3 : w21.cell? ⟨gb279, 3, none⟩ = some (.bool false) := (blk_cell BK279.out 3).trans rfl; have hfz23_0 := blk_frozen BK279.out 0; have hfz23_1 := blk_frozen BK279.out 1; have hfz23_2 := blk_frozen BK279.out 2; have hfz23_3 := blk_frozen BK279.out 3))
      have n0_ : Aside0 (((((w21.setCell ⟨gb279, 0, none⟩ (.int .i64 t274)).setCell ⟨gb279, 1, none⟩ (.int .i64 t275)).setCell ⟨gb279, 2, none⟩ (.string t276)).setCell ⟨gb279, 3, none⟩ (.bool t277)).heap[gb273]? = some (.cells #[.int .i64 0, .int .i64 0, .string (⟨#[]⟩ : ByteArray), .bool false] 43 (0, 0))) := ⟨bfT2 NB273_279.out BK273.out⟩
      have n1_ : Aside0 (((((w21.setCell ⟨gb279, 0, none⟩ (.int .i64 t274)).setCell ⟨gb279, 1, none⟩ (.int .i64 t275)).setCell ⟨gb279, 2, none⟩ (.string t276)).setCell ⟨gb279, 3, none⟩ (.bool t277)).heap[gb279]? = some (.cells #[.int .i64 t274, .int .i64 t275, .string t276, .bool t277] 43 (0, 0))) := ⟨by (with_reducible repeat (first | refine blk_drewN ?_ _ | refine blk_drew ?_ | refine blk_alloc ?_ _)); refine blk_put (cs := #[.int .i64 t274, .int .i64 t275, .string t276, .bool false]) ?_ 3 _ rfl; (with_reducible repeat (first | refine blk_drewN ?_ _ | refine blk_drew ?_ | refine blk_alloc ?_ _)); refine blk_put (cs := #[.int .i64 t274, .int .i64 t275, .string (⟨#[]⟩ : ByteArray), .bool false]) ?_ 2 _ rfl; (with_reducible repeat (first | refine blk_drewN ?_ _ | refine blk_drew ?_ | refine blk_alloc ?_ _)); refine blk_put (cs := #[.int .i64 t274, .int .i64 0, .string (⟨#[]⟩ : ByteArray), .bool false]) ?_ 1 _ rfl; (with_reducible repeat (first | refine blk_drewN ?_ _ | refine blk_drew ?_ | refine blk_alloc ?_ _)); refine blk_put (cs := #[.int .i64 0, .int .i64 0, .string (⟨#[]⟩ : ByteArray), .bool false]) ?_ 0 _ rfl; (with_reducible repeat (first | refine blk_drewN ?_ _ | refine blk_drew ?_ | refine blk_alloc ?_ _)); exact BK279.out⟩
      have n2_ : Aside0 (Below w.heap.size w ((((w21.setCell ⟨gb279, 0, none⟩ (.int .i64 t274)).setCell ⟨gb279, 1, none⟩ (.int .i64 t275)).setCell ⟨gb279, 2, none⟩ (.string t276)).setCell ⟨gb279, 3, none⟩ (.bool t277))) := ⟨hbT HB.out⟩
      (try clear BK273)
      (try clear BK279)
      (try clear HB)
      generalize ((((w21.setCell ⟨gb279, 0, none⟩ (.int .i64 t274)).setCell ⟨gb279, 1, none⟩ (.int .i64 t275)).setCell ⟨gb279, 2, none⟩ (.string t276)).setCell ⟨gb279, 3, none⟩ (.bool t277)) = w24 at n0_ n1_ n2_ ⊢
      have BK273 := n0_
      have BK279 := n1_
      have HB := n2_
      clear n0_ n1_ n2_
      replace BK273 := bdA BK273; replace BK279 := bdA BK279; replace HB := Aside0.mk (below_drew1 HB.out)
      refine start_ (n := 11) (S := fun w' => w'.cell? ⟨gb279, 0, none⟩ = some (.int .i64 t274) ∧ w'.cell? ⟨gb279, 1, none⟩ = some (.int .i64 t275) ∧ w'.cell? ⟨gb279, 2, none⟩ = some (.string t276) ∧ w'.cell? ⟨gb279, 3, none⟩ = some (.bool t277)) (ds := []) #[false, false, false, false, false, false, false, false, false, false, false] (by kernel_rfl) rfl rfl ⟨(blk_cell BK279.out 0).trans rfl, (blk_cell BK279.out 1).trans rfl, (blk_cell BK279.out 2).trans rfl, (blk_cell BK279.out 3).trans rfl⟩ (fun hHeld => ?_); refine with_tabW refrainref4_cell.tab4 refrainref4_cell.bits4 (fun HT_ HW_ => ?_)
      generalize w24.drew = w25 at BK273 BK279 HB hHeld ⊢
      refine pure_ (i := 1) (N := some 21) (v := ?_) (a' := ?_) #[false, true, false, false, false, false, false, false, false, false, false] rfl rfl (any_of HT_.out (by kernel_rfl)) (fun _ _ _ h => h) (Or.inl ⟨by rfl, ?_⟩) ?_ ?_
      rotate_left; (focus (intro w'; go_simp; with_reducible rfl)); rotate_left; (focus (simp only [Act.put, List.setIfInBounds_toArray, List.set_cons_zero, List.set_cons_succ, i64_w, i32_w, IntKind.wrap_u8, IntKind.wrap_u16, IntKind.wrap_u32]; rfl))
      refine pure_ (i := 2) (N := some 22) (v := ?_) (a' := ?_) #[false, true, true, false, false, false, false, false, false, false, false] rfl rfl (any_of HT_.out (by kernel_rfl)) (fun _ _ _ h => h) (Or.inl ⟨by rfl, ?_⟩) ?_ ?_
      rotate_left; (focus (intro w'; go_simp; with_reducible rfl)); rotate_left; (focus (simp only [Act.put, List.setIfInBounds_toArray, List.set_cons_zero, List.set_cons_succ, i64_w, i32_w, IntKind.wrap_u8, IntKind.wrap_u16, IntKind.wrap_u32]; rfl))
      refine pure_ (i := 3) (N := some 23) (v := ?_) (a' := ?_) #[false, true, true, true, false, false, false, false, false, false, false] rfl rfl (any_of HT_.out (by kernel_rfl)) (fun _ _ _ h => h) (Or.inl ⟨by rfl, ?_⟩) ?_ ?_
      rotate_left; (focus (intro w'; go_simp; with_reducible rfl)); rotate_left; (focus (simp only [Act.put, List.setIfInBounds_toArray, List.set_cons_zero, List.set_cons_succ, i64_w, i32_w, IntKind.wrap_u8, IntKind.wrap_u16, IntKind.wrap_u32]; rfl))
      refine pure_ (i := 4) (N := some 24) (v := undef) (a' := ?_) #[false, true, true, true, true, false, false, false, false, false, false] rfl rfl (any_of HT_.out (by kernel_rfl)) (fun _ _ _ h => h) (Or.inr ⟨by rfl, rfl⟩) ?_ ?_
      rotate_left
      · simp only [Act.put, List.setIfInBounds_toArray, List.set_cons_zero, List.set_cons_succ, i64_w, i32_w, IntKind.wrap_u8, IntKind.wrap_u16, IntKind.wrap_u32]
        rfl
      refine pure_ (i := 5) (N := some 25) (v := undef) (a' := ?_) #[false, true, true, true, true, true, false, false, false, false, false] rfl rfl (any_of HT_.out (by kernel_rfl)) (fun _ _ _ h => h) (Or.inr ⟨by rfl, rfl⟩) ?_ ?_
      rotate_left
      · simp only [Act.put, List.setIfInBounds_toArray, List.set_cons_zero, List.set_cons_succ, i64_w, i32_w, IntKind.wrap_u8, IntKind.wrap_u16, IntKind.wrap_u32]
        rfl
      refine pure_ (i := 6) (N := some 26) (v := undef) (a' := ?_) #[false, true, true, true, true, true, true, false, false, false, false] rfl rfl (any_of HT_.out (by kernel_rfl)) (fun _ _ _ h => h) (Or.inr ⟨by rfl, rfl⟩) ?_ ?_
      rotate_left
      · simp only [Act.put, List.setIfInBounds_toArray, List.set_cons_zero, List.set_cons_succ, i64_w, i32_w, IntKind.wrap_u8, IntKind.wrap_u16, IntKind.wrap_u32]
        rfl
      refine pure_ (i := 7) (N := some 27) (v := undef) (a' := ?_) #[false, true, true, true, true, true, true, true, false, false, false] rfl rfl (any_of HT_.out (by kernel_rfl)) (fun _ _ _ h => h) (Or.inr ⟨by rfl, rfl⟩) ?_ ?_
      rotate_left
      · simp only [Act.put, List.setIfInBounds_toArray, List.set_cons_zero, List.set_cons_succ, i64_w, i32_w, IntKind.wrap_u8, IntKind.wrap_u16, IntKind.wrap_u32]
        rfl
      refine pure_ (i := 8) (N := some 28) (v := ?_) (a' := ?_) #[false, true, true, true, true, true, true, true, true, false, false] rfl rfl (any_of HT_.out (by kernel_rfl)) (fun _ _ _ h => h) (Or.inl ⟨by rfl, ?_⟩) ?_ ?_
      rotate_left; (focus (intro w'; go_simp; with_reducible rfl)); rotate_left; (focus (simp only [Act.put, List.setIfInBounds_toArray, List.set_cons_zero, List.set_cons_succ, i64_w, i32_w, IntKind.wrap_u8, IntKind.wrap_u16, IntKind.wrap_u32]; rfl))
      refine take_ (i := 0) (N := some 20) (v := ?_) (a' := ?_) #[true, true, true, true, true, true, true, true, true, false, false] rfl rfl (take_ofW HT_.out HW_.out (by kernel_rfl)) (fun _ _ _ h => h) (Or.inl ⟨by rfl, ?_⟩) hHeld ?_ ?_
      rotate_left; (focus (rintro w' ⟨s0, s1, s2, s3⟩; go_simp; with_reducible rfl)); rotate_left; (focus (simp only [Act.put, List.setIfInBounds_toArray, List.set_cons_zero, List.set_cons_succ, i64_w, i32_w, IntKind.wrap_u8, IntKind.wrap_u16, IntKind.wrap_u32]; rfl))
      refine one_ (i := 9) (N := none) #[true, true, true, true, true, true, true, true, true, true, false] rfl rfl (one_of HT_.out (by kernel_rfl)) (by decide) (fun K hK => ?_)
      have hs26 : w25.cell? ⟨gb273, 0, none⟩ = some (.int .i64 0) := (blk_cell BK273.out 0).trans rfl
      have hfs26 := blk_frozen BK273.out 0; have hns26_1 := NB279_273.out; have hms26_1 := NB273_279.out
      have hs27 : w25.cell? ⟨gb273, 1, none⟩ = some (.int .i64 0) := (blk_cell BK273.out 1).trans rfl
      have hfs27 := blk_frozen BK273.out 1; have hns27_1 := NB279_273.out; have hms27_1 := NB273_279.out
      have hs28 : w25.cell? ⟨gb273, 2, none⟩ = some (.string (⟨#[]⟩ : ByteArray)) := (blk_cell BK273.out 2).trans rfl
      have hfs28 := blk_frozen BK273.out 2; have hns28_1 := NB279_273.out; have hms28_1 := NB273_279.out
      have hs29 : w25.cell? ⟨gb273, 3, none⟩ = some (.bool false) := (blk_cell BK273.out 3).trans rfl
      have hfs29 := blk_frozen BK273.out 3; have hns29_1 := NB279_273.out; have hms29_1 := NB273_279.out
      refine skip_ (w1 := ?_) (by rfl) rfl ?_ ?_
      rotate_left
      · go_simp
        rfl
      refine hK.out _ _ ⟨(cfT NB279_273.out (hHeld.1)), (cfT NB279_273.out (hHeld.2.1)), (cfT NB279_273.out (hHeld.2.2.1)), (cfT NB279_273.out (hHeld.2.2.2))⟩ (fun hHeld => ?_)
      clear hK K
      refine pure_ (i := 10) (N := some 5) (v := ?_) (a' := ?_) #[true, true, true, true, true, true, true, true, true, true, true] rfl rfl (any_of HT_.out (by kernel_rfl)) (fun _ _ _ h => h) (Or.inl ⟨by rfl, ?_⟩) ?_ ?_
      rotate_left; (focus (intro w'; go_simp; with_reducible rfl)); rotate_left; (focus (simp only [Act.put, List.setIfInBounds_toArray, List.set_cons_zero, List.set_cons_succ, i64_w, i32_w, IntKind.wrap_u8, IntKind.wrap_u16, IntKind.wrap_u32]; rfl))
      refine done_ (done_of HT_.out (by kernel_rfl)) ?_
      try go_wp2
      refine bodyPost_ret (results_ct rfl _ _ gb273 43 #[.int .i64 t274, .int .i64 t275, .string t276, .bool t277] (0, 0) _ rfl (by (with_reducible repeat (first | refine blk_drewN ?_ _ | refine blk_drew ?_ | refine blk_alloc ?_ _)); refine blk_put (cs := #[.int .i64 t274, .int .i64 t275, .string t276, .bool false]) ?_ 3 _ rfl; (with_reducible repeat (first | refine blk_drewN ?_ _ | refine blk_drew ?_ | refine blk_alloc ?_ _)); refine blk_put (cs := #[.int .i64 t274, .int .i64 t275, .string (⟨#[]⟩ : ByteArray), .bool false]) ?_ 2 _ rfl; (with_reducible repeat (first | refine blk_drewN ?_ _ | refine blk_drew ?_ | refine blk_alloc ?_ _)); refine blk_put (cs := #[.int .i64 t274, .int .i64 0, .string (⟨#[]⟩ : ByteArray), .bool false]) ?_ 1 _ rfl; (with_reducible repeat (first | refine blk_drewN ?_ _ | refine blk_drew ?_ | refine blk_alloc ?_ _)); refine blk_put (cs := #[.int .i64 0, .int .i64 0, .string (⟨#[]⟩ : ByteArray), .bool false]) ?_ 0 _ rfl; (with_reducible repeat (first | refine blk_drewN ?_ _ | refine blk_drew ?_ | refine blk_alloc ?_ _)); exact BK273.out) Tryz.underlying43 rfl (by kernel_rfl)) rfl ?_
      exact ⟨by first | rfl | (simp [errW_none, errW_some] <;> rfl) | (simp [*, errW_none, errW_some] <;> rfl), hbT HB.out⟩

end Go.Proofs.YtpkbhfdfgapmlaaGreatDoor.Pr
end

/-! ## text ExtRe -/
section
/- refrainref4.Event, walked by hand: it answers as csv.Event is said to. -/
namespace Go.Proofs.YtpkbhfdfgapmlaaGreatDoor.Pr
open Go Go.RowKit Go.Proofs.YtpkbhfdfgapmlaaGreatDoor.Pv Go.Proofs.YtpkbhfdfgapmlaaGreatDoorW.PrintWords Go.Proofs.YtpkbhfdfgapmlaaGreatDoorW.PrintLast Go.Proofs.YtpkbhfdfgapmlaaGreatDoorW.PrintMore
set_option maxRecDepth 100000
set_option linter.unusedVariables false
set_option linter.unusedSimpArgs false
attribute [local go_sem ↓] Go.wp_at_zero Go.wp_at_succ
theorem know_f (n : Int) : refrainref4_known.f n = some (decide (1 ≤ n ∧ n ≤ 3)) := by
  unfold refrainref4_known.f
  by_cases h : n ≥ 1
  · rw [if_pos h]
    congr 1
    by_cases h2 : n ≤ 3
    · rw [decide_eq_true h2, decide_eq_true ⟨h, h2⟩]
    · rw [decide_eq_false h2, decide_eq_false (fun e => h2 e.2)]
  · rw [if_neg h, decide_eq_false (fun e => h e.1)]
/-- What stands when the values from the i-th on are told. -/
def finE (name : ByteArray) (tm : Int) (at' : List (S30)) (row : List ByteArray) (i : Nat) (acc : List (S43)) : ByteArray × Int × List (S43) × Int := match valsL (at'.drop i) (row.drop (i + 1)) with
  | none => (⟨#[]⟩, 0, [], 12)
  | some vs => (name, tm, acc ++ vs, 0)
theorem finE_end (name : ByteArray) (tm : Int) (at' : List (S30)) (row : List ByteArray) (i : Nat) (acc : List (S43)) (h : at'.length ≤ i) : finE name tm at' row i acc = (name, tm, acc, 0) := by
  unfold finE
  rw [List.drop_eq_nil_of_le h]
  unfold valsL
  dsimp only
  rw [List.append_nil]
theorem finE_step (name : ByteArray) (tm : Int) (at' : List (S30)) (row : List ByteArray) (i : Nat) (acc : List (S43)) (hi : i < at'.length) (hr : i + 1 < row.length) :
    finE name tm at' row i acc = if (rdS (at'[i]).f1 (row[i + 1])).2.2.2.2 = true then finE name tm at' row (i + 1) (acc ++ [valS (rdS (at'[i]).f1 (row[i + 1]))]) else (⟨#[]⟩, 0, [], 12) := by
  unfold finE
  rw [List.drop_eq_getElem_cons hi, List.drop_eq_getElem_cons hr]
  conv => lhs; unfold valsL
  by_cases h : (rdS (at'[i]).f1 (row[i + 1])).2.2.2.2 = true
  · rw [if_pos h, if_pos h]
    cases valsL (at'.drop (i + 1)) (row.drop (i + 1 + 1)) with
    | none => rfl
    | some vs => simp
  · rw [if_neg h, if_neg h]
set_option maxHeartbeats 16000000 in
theorem ref_Event (name : ByteArray) (A0 : Option Addr) (c0 : Nat) (at' : List (S30)) (A1 : Option Addr) (c1 : Nat) (row : List ByteArray) (r1 : ByteArray) (r2 : Int) (r3 : List (S43)) (r4 : Int) (w : World)
    (hr0 : Kd.C k30 w A0 at'.length at') (hc0 : at'.length ≤ c0) (hr1 : Kd.C Kd.string w A1 row.length row) (hc1 : row.length ≤ c1) (hn : at'.length ≤ 1048576) (hs : ∀ s ∈ row, ∃ k, refrainref1_Read.f k s = some (readP s.data.toList)) (hq : ∀ (kind : Int), ∀ s ∈ row, ∃ k, refrainref4_cell.f k kind s = some (rdS kind s)) (h : eventS name at' row = (r1, r2, r3, r4)) :
    Calls Tryz.prog 11 #[.agg #[.string name, .slice A0 at'.length c0], .slice A1 row.length c1] w fun e w' => ∃ v2_ : Value, e = .returned (.tuple #[.agg #[.string r1, .int .i64 r2, v2_], .int .i64 r4]) ∧ Kd.R k43 43 w' w.heap.size (fun _ => True) v2_ r3 ∧ Below w.heap.size w w' := by
  have HR0 := Aside0.mk hr0
  have HR1 := Aside0.mk hr1
  have HN := Aside0.mk hn
  have HS := Aside0.mk hs
  have HQ := Aside0.mk hq
  have H0 := Aside0.mk h
  clear hr0 hc0 hr1 hc1 hs h hq
  have hw : wrap64 ((at'.length : Int) + 1) = (at'.length : Int) + 1 := by unfold wrap64; omega
  go_enter Tryz.func11, Tryz.ntmps11
  go_upto_region 1 with (fail)
  obtain ⟨g2, e2⟩ : ∃ g, g = w.heap.size := ⟨_, rfl⟩
  obtain ⟨g4, e4⟩ : ∃ g, g = w.heap.size + 1 := ⟨_, rfl⟩
  obtain ⟨w1, hw1⟩ : ∃ w1, w1 = (w.alloc (.cells #[.string name, .slice A0 at'.length c0] 24)).alloc (.cells #[.string ⟨#[]⟩, .int .i64 0, .slice none 0 0] 35) := ⟨_, rfl⟩
  have K2 : Aside0 (w1.heap[g2]? = some (.cells #[.string name, .slice A0 at'.length c0] 24 (0, 0))) := ⟨by rw [hw1, e2]; exact blk_alloc (blk_new _ _) _⟩
  have K4 : Aside0 (w1.heap[g4]? = some (.cells #[.string ⟨#[]⟩, .int .i64 0, .slice none 0 0] 35 (0, 0))) := ⟨by rw [hw1, e4]; exact blk_new1 _ _ _⟩
  have HB : Aside0 (Below w.heap.size w w1) := ⟨by rw [hw1]; exact below_alloc (below_alloc (Below.refl _ _) _) _⟩
  rw [← e4, ← e2, ← hw1]
  have G4 : Aside0 (w.heap.size ≤ g4) := ⟨by omega⟩
  clear e2 e4 hw1
  have a0 : w1.cell? ⟨g2, 0, none⟩ = some (.string name) := blk_cell K2.out 0
  have a1 : w1.cell? ⟨g2, 1, none⟩ = some (.slice A0 at'.length c0) := blk_cell K2.out 1
  have b0 : w1.cell? ⟨g4, 0, none⟩ = some (.string ⟨#[]⟩) := blk_cell K4.out 0
  have b1 : w1.cell? ⟨g4, 1, none⟩ = some (.int .i64 0) := blk_cell K4.out 1
  have b2 : w1.cell? ⟨g4, 2, none⟩ = some (.slice none 0 0) := blk_cell K4.out 2
  have bz : ∀ j, w1.frozen? ⟨g4, j, none⟩ = false := fun j => blk_frozen K4.out j
  have bl := blk_lt K4.out
  by_cases hlen : row.length = at'.length + 1
  · have hx : ((row.length : Int) != wrap64 ((at'.length : Int) + 1)) = false := by rw [hw, hlen]; exact bne_eq_false_iff_eq.2 (by omega)
    have H := H0.out
    unfold eventS at H
    rw [if_pos hlen] at H
    replace H0 := Aside0.mk H
    clear H
    have p0 : 0 ≤ (0 : Int) := by omega
    have q0 : (0 : Int) < (row.length : Int) := by omega
    obtain ⟨ad, ead, hxd⟩ := Kd.at_string HR1.out 0 p0 q0
    cases ead
    have qi : (0 < row.length) = True := eq_true (by omega)
    rw [show ((0 : Int)).toNat = 0 from rfl, Addr.add_zero'] at hxd
    replace hxd := (HB.out.cell (World.block_lt_of_cell? w _ hxd)).trans hxd
    obtain ⟨kT, hkT⟩ := HS.out _ (rd0_mem (row := row) (by omega))
    have hts : tmS row = ((readP (rdOf ByteArray.empty row 0).data.toList).2.2.2.2 == 0 && (readP (rdOf ByteArray.empty row 0).data.toList).1 == 1 && decide (0 ≤ (readP (rdOf ByteArray.empty row 0).data.toList).2.1 ∧ (readP (rdOf ByteArray.empty row 0).data.toList).2.1 ≤ 4611686018427387904)) := rfl
    obtain ⟨t1, t2, t3, t4, t5, hrd⟩ : ∃ t1 t2 t3 t4 t5, readP (rdOf ByteArray.empty row 0).data.toList = (t1, t2, t3, t4, t5) := ⟨_, _, _, _, _, rfl⟩
    rw [hrd] at hkT hts
    replace hts : tmS row = (t5 == 0 && t1 == 1 && decide (0 ≤ t2 ∧ t2 ≤ 4611686018427387904)) := hts
    have H := H0.out
    rw [hrd, hts] at H
    replace H0 : Aside0 (((if (t5 == 0 && t1 == 1 && decide (0 ≤ t2 ∧ t2 ≤ 4611686018427387904)) = true then (if kindsOk at' then (match valsL at' (row.drop 1) with | none => (⟨#[]⟩, 0, [], 12) | some vs => (name, t2, vs, 0)) else (⟨#[]⟩, 0, [], 10)) else (⟨#[]⟩, 0, [], 23)) : ByteArray × Int × List (S43) × Int) = (r1, r2, r3, r4)) := ⟨by rw [← H]; rfl⟩
    have HKT := Aside0.mk hkT
    clear H hkT hts hrd
    replace p0 := eq_true p0
    replace q0 := eq_true q0
    go_upto_region 4 with (go_at_call 30; refine (refrainref1_Read.calls kT _ t1 t2 t3 t4 t5 w1 HKT.out).mono ?_; rintro e w2 ⟨rfl, hb⟩; replace K2 := Aside0.mk (blk_below K2.out hb); replace K4 := Aside0.mk (blk_below K4.out hb); replace HB := Aside0.mk (below_step HB.out hb); clear hb a0 a1 b0 b1 b2 bz bl hxd)
    obtain ⟨g6, e6⟩ : ∃ g, g = w2.heap.size := ⟨_, rfl⟩
    obtain ⟨w3, hw3⟩ : ∃ w3, w3 = w2.alloc (.cells #[.int .i64 t1, .int .i64 t2, .string t3, .bool t4] 43) := ⟨_, rfl⟩
    have K6 : Aside0 (w3.heap[g6]? = some (.cells #[.int .i64 t1, .int .i64 t2, .string t3, .bool t4] 43 (0, 0))) := ⟨by rw [hw3, e6]; exact blk_new _ _⟩
    replace K2 : Aside0 (w3.heap[g2]? = some (.cells #[.string name, .slice A0 at'.length c0] 24 (0, 0))) := ⟨by rw [hw3]; exact blk_alloc K2.out _⟩
    replace K4 : Aside0 (w3.heap[g4]? = some (.cells #[.string ⟨#[]⟩, .int .i64 0, .slice none 0 0] 35 (0, 0))) := ⟨by rw [hw3]; exact blk_alloc K4.out _⟩
    replace HB : Aside0 (Below w.heap.size w w3) := ⟨by rw [hw3]; exact below_alloc HB.out _⟩
    rw [← hw3, ← e6]
    clear hw3 e6 hx
    have a60 : w3.cell? ⟨g6, 0, none⟩ = some (.int .i64 t1) := blk_cell K6.out 0
    have a61 : w3.cell? ⟨g6, 1, none⟩ = some (.int .i64 t2) := blk_cell K6.out 1
    have b0 : w3.cell? ⟨g4, 0, none⟩ = some (.string ⟨#[]⟩) := blk_cell K4.out 0
    have b1 : w3.cell? ⟨g4, 1, none⟩ = some (.int .i64 0) := blk_cell K4.out 1
    have b2 : w3.cell? ⟨g4, 2, none⟩ = some (.slice none 0 0) := blk_cell K4.out 2
    have bz : ∀ j, w3.frozen? ⟨g4, j, none⟩ = false := fun j => blk_frozen K4.out j
    have bl := blk_lt K4.out
    have bad : (t5 == 0 && t1 == 1 && decide (0 ≤ t2 ∧ t2 ≤ 4611686018427387904)) = false → r1 = ⟨#[]⟩ ∧ r2 = 0 ∧ r3 = [] ∧ r4 = 23 := fun hb => by
      have H := H0.out
      rw [hb, if_neg (by decide)] at H
      simp only [Prod.mk.injEq] at H
      obtain ⟨rfl, rfl, rfl, rfl⟩ := H
      exact ⟨rfl, rfl, rfl, rfl⟩
    have BAD := Aside0.mk bad
    clear bad
    by_cases h5 : t5 = 0
    · have v5 : (t5 != 0) = false := bne_eq_false_iff_eq.mpr h5
      have V5 := Aside0.mk h5
      clear h5
      by_cases h1 : t1 = 1
      · have v1 : (t1 != 1) = false := bne_eq_false_iff_eq.mpr h1
        have V1 := Aside0.mk h1
        clear h1
        by_cases h2 : t2 < 0
        · have l1 : decide (t2 < 0) = true := decide_eq_true h2
          obtain ⟨rfl, rfl, rfl, rfl⟩ := BAD.out (by rw [V5.out, V1.out, decide_eq_false (by omega)]; rfl)
          go_wp2
          refine bodyPost_ret (results_ct rfl _ _ g4 35 #[.string ⟨#[]⟩, .int .i64 0, .slice none 0 0] (0, 0) _ rfl (put3 K4.out) Tryz.underlying35 rfl (by kernel_rfl)) rfl ?_
          exact ⟨_, rfl, Kd.R_nil _ _ _ _ _, below_put3 HB.out G4.out⟩
        · have l1 : decide (t2 < 0) = false := decide_eq_false h2
          by_cases h3 : 4611686018427387904 < t2
          · have l2 : decide (4611686018427387904 < t2) = true := decide_eq_true h3
            obtain ⟨rfl, rfl, rfl, rfl⟩ := BAD.out (by rw [V5.out, V1.out, decide_eq_false (by omega)]; rfl)
            go_wp2
            refine bodyPost_ret (results_ct rfl _ _ g4 35 #[.string ⟨#[]⟩, .int .i64 0, .slice none 0 0] (0, 0) _ rfl (put3 K4.out) Tryz.underlying35 rfl (by kernel_rfl)) rfl ?_
            exact ⟨_, rfl, Kd.R_nil _ _ _ _ _, below_put3 HB.out G4.out⟩
          · have l2 : decide (4611686018427387904 < t2) = false := decide_eq_false h3
            have H := H0.out
            rw [V5.out, V1.out, decide_eq_true (by omega), if_pos (show ((0 : Int) == 0 && (1 : Int) == 1 && true) = true by decide)] at H
            replace H0 := Aside0.mk H
            clear H BAD h2 h3
            go_upto_region 6 with (fail)
            clear a60 a61 b0 b1 b2 bz bl v5 v1 l1 l2
            go_wp2
            go_loopg [8] at'.length (fun gk v8 wx => ∃ i : Nat, v8 = .int .i64 i ∧ i + gk = at'.length ∧ Aside0 (∀ (j : Nat) (h : j < at'.length), j < i → 1 ≤ (at'[j]).f1 ∧ (at'[j]).f1 ≤ 3) ∧ Aside0 (wx.heap[g2]? = some (.cells #[.string name, .slice A0 at'.length c0] 24 (0, 0))) ∧ Aside0 (wx.heap[g4]? = some (.cells #[.string ⟨#[]⟩, .int .i64 0, .slice none 0 0] 35 (0, 0))) ∧ Aside0 (wx.heap[g6]? = some (.cells #[.int .i64 t1, .int .i64 t2, .string t3, .bool t4] 43 (0, 0))) ∧ Aside0 (Below w.heap.size w wx))
            case atStart => exact ⟨0, rfl, by omega, ⟨fun j h hj => by omega⟩, K2, K4, K6, HB⟩
            case round =>
              clear K2 K4 K6 HB
              obtain ⟨i, rfl, hig, HK, K2, K4, K6, HB⟩ := hrel
              have a1 : wr.cell? ⟨g2, 1, none⟩ = some (.slice A0 at'.length c0) := blk_cell K2.out 1
              by_cases hi : i < at'.length
              · have hd : decide ((i : Int) < (at'.length : Int)) = true := decide_eq_true (by omega)
                have p1 : 0 ≤ (i : Int) := by omega
                have q1 : (i : Int) < (at'.length : Int) := by omega
                obtain ⟨ae, ee, hx0, hx1⟩ := at_T30 HR0.out (i : Int) p1 q1
                cases ee
                rw [Int.toNat_natCast, rd30_eq hi] at hx1
                replace hx1 := (HB.out.cell (World.block_lt_of_cell? w _ hx1)).trans hx1
                clear hx0
                obtain ⟨aK, haK⟩ : ∃ x, x = (at'[i]).f1 := ⟨_, rfl⟩
                rw [← haK] at hx1
                have HAK := Aside0.mk haK
                clear haK
                have b0 : wr.cell? ⟨g4, 0, none⟩ = some (.string ⟨#[]⟩) := blk_cell K4.out 0
                have b1 : wr.cell? ⟨g4, 1, none⟩ = some (.int .i64 0) := blk_cell K4.out 1
                have b2 : wr.cell? ⟨g4, 2, none⟩ = some (.slice none 0 0) := blk_cell K4.out 2
                have bz : ∀ j, wr.frozen? ⟨g4, j, none⟩ = false := fun j => blk_frozen K4.out j
                have bl := blk_lt K4.out
                by_cases hk : 1 ≤ aK ∧ aK ≤ 3
                · have HKN : Aside0 (refrainref4_known.f aK = some true) := ⟨by rw [know_f, decide_eq_true hk]⟩
                  have HKK := Aside0.mk hk
                  clear hk
                  go_wp2_with (go_at_call 31; refine (refrainref4_known.calls aK true _ HKN.out).mono ?_; rintro e w8 ⟨rfl, ⟨n, rfl⟩⟩)
                  go_roundg (at'.length - (i + 1))
                  case measure => omega
                  case rel => exact ⟨i + 1, by first | rfl | go_num, by omega, ⟨fun j hj hlt => by
                    rcases Nat.lt_or_ge j i with h | h
                    · exact HK.out j hj h
                    · obtain rfl : j = i := by omega
                      rw [← HAK.out]; exact HKK.out⟩, ⟨blk_drewN K2.out n⟩, ⟨blk_drewN K4.out n⟩, ⟨blk_drewN K6.out n⟩, ⟨pw_below_drewN HB.out n⟩⟩
                · have HKN : Aside0 (refrainref4_known.f aK = some false) := ⟨by rw [know_f, decide_eq_false hk]⟩
                  have H := H0.out
                  rw [if_neg (show ¬ kindsOk at' from fun e => hk (by rw [HAK.out]; exact e _ (List.getElem_mem hi)))] at H
                  simp only [Prod.mk.injEq] at H
                  obtain ⟨rfl, rfl, rfl, rfl⟩ := H
                  clear H0 hk
                  go_wp2_with (go_at_call 31; refine (refrainref4_known.calls aK false _ HKN.out).mono ?_; rintro e w8 ⟨rfl, ⟨n, rfl⟩⟩)
                  refine bodyPost_ret (results_ct rfl _ _ g4 35 #[.string ⟨#[]⟩, .int .i64 0, .slice none 0 0] (0, 0) _ rfl (put3 (blk_drewN K4.out n)) Tryz.underlying35 rfl (by kernel_rfl)) rfl ?_
                  exact ⟨_, rfl, Kd.R_nil _ _ _ _ _, below_put3 (pw_below_drewN HB.out n) G4.out⟩
              · have hd : decide ((i : Int) < (at'.length : Int)) = false := decide_eq_false (by omega)
                have H := H0.out
                rw [if_pos (show kindsOk at' from fun a ha => by
                  obtain ⟨j, hj, rfl⟩ := List.getElem_of_mem ha
                  exact HK.out j hj (by omega))] at H
                have HF : Aside0 (finE name t2 at' row 0 [] = (r1, r2, r3, r4)) := ⟨by rw [← H]; unfold finE; rw [List.drop_zero, show 0 + 1 = 1 from rfl]; cases valsL at' (List.drop 1 row) <;> rfl⟩
                clear H H0 HK
                have a0 : wr.cell? ⟨g2, 0, none⟩ = some (.string name) := blk_cell K2.out 0
                have a6 : wr.cell? ⟨g6, 1, none⟩ = some (.int .i64 t2) := blk_cell K6.out 1
                go_upto_region 13 with (fail)
                obtain ⟨g11, e11⟩ : ∃ g, g = wr.heap.size := ⟨_, rfl⟩
                obtain ⟨w7, hw7⟩ : ∃ w7, w7 = wr.alloc (.cells #[.string name, .int .i64 t2, .slice none 0 0] 35) := ⟨_, rfl⟩
                have K11 : Aside0 (w7.heap[g11]? = some (.cells #[.string name, .int .i64 t2, .slice none 0 0] 35 (0, 0))) := ⟨by rw [hw7, e11]; exact blk_new _ _⟩
                have G411 : g4 ≠ g11 := by have := blk_lt K4.out; omega
                have G211 : g2 ≠ g11 := by have := blk_lt K2.out; omega
                have G11 : Aside0 (w.heap.size ≤ g11) := ⟨by have := blk_lt K4.out; have := G4.out; omega⟩
                replace K2 : Aside0 (w7.heap[g2]? = some (.cells #[.string name, .slice A0 at'.length c0] 24 (0, 0))) := ⟨by rw [hw7]; exact blk_alloc K2.out _⟩
                replace K4 : Aside0 (w7.heap[g4]? = some (.cells #[.string ⟨#[]⟩, .int .i64 0, .slice none 0 0] 35 (0, 0))) := ⟨by rw [hw7]; exact blk_alloc K4.out _⟩
                replace HB : Aside0 (Below w.heap.size w w7) := ⟨by rw [hw7]; exact below_alloc HB.out _⟩
                rw [← hw7, ← e11]
                clear hw7 e11 a0 a1 a6 K6 hi hig hd
                go_wp2
                go_loopg [11] at'.length (fun gk v11 wx => ∃ (i : Nat) (acc : List (S43)) (u : Value), v11 = .int .i64 i ∧ i + gk = at'.length ∧ Aside0 (acc.length = i) ∧ Aside0 (finE name t2 at' row i acc = (r1, r2, r3, r4)) ∧ Aside0 (Kd.R k43 43 wx w.heap.size (fun _ => True) u acc) ∧ Aside0 (wx.heap[g2]? = some (.cells #[.string name, .slice A0 at'.length c0] 24 (0, 0))) ∧ Aside0 (wx.heap[g4]? = some (.cells #[.string ⟨#[]⟩, .int .i64 0, .slice none 0 0] 35 (0, 0))) ∧ Aside0 (wx.heap[g11]? = some (.cells #[.string name, .int .i64 t2, u] 35 (0, 0))) ∧ Aside0 (Below w.heap.size w wx))
                case atStart => exact ⟨0, [], _, rfl, by omega, ⟨rfl⟩, HF, ⟨Kd.R_nil _ _ _ _ _⟩, K2, K4, K11, HB⟩
                case round =>
                  clear K2 K4 K11 HB HF
                  obtain ⟨i, acc, u, rfl, hig, HAL, HF, HR, K2, K4, K11, HB⟩ := hrel
                  obtain ⟨Av, cv, rfl⟩ := Kd.R_slice HR.out
                  have a1 : wr.cell? ⟨g2, 1, none⟩ = some (.slice A0 at'.length c0) := blk_cell K2.out 1
                  by_cases hi : i < at'.length
                  · have hd : decide ((i : Int) < (at'.length : Int)) = true := decide_eq_true (by omega)
                    have hi1 : i + 1 < row.length := by omega
                    have p1 : 0 ≤ (i : Int) := by omega
                    have q1 : (i : Int) < (at'.length : Int) := by omega
                    obtain ⟨ae, ee, hx0, hx1⟩ := at_T30 HR0.out (i : Int) p1 q1
                    cases ee
                    rw [Int.toNat_natCast, rd30_eq hi] at hx1
                    replace hx1 := (HB.out.cell (World.block_lt_of_cell? w _ hx1)).trans hx1
                    have hsum : IntKind.i64.wrap ((i : Int) + 1) = (i : Int) + 1 := IntWalk.i64_in _ (by omega)
                    have p3 : 0 ≤ (i : Int) + 1 := by omega
                    have q3 : (i : Int) + 1 < (row.length : Int) := by omega
                    obtain ⟨ad', ead, hxd⟩ := Kd.at_string HR1.out ((i : Int) + 1) p3 q3
                    obtain rfl : ad = ad' := by injection ead
                    have hn3 : ((i : Int) + 1).toNat = i + 1 := by omega
                    rw [hn3, rdO_eq hi1] at hxd
                    replace hxd := (HB.out.cell (World.block_lt_of_cell? w _ hxd)).trans hxd
                    have hf := HF.out
                    rw [finE_step name t2 at' row i acc hi hi1] at hf
                    obtain ⟨kC, hkC⟩ := HQ.out (at'[i]).f1 (row[i + 1]) (List.getElem_mem hi1)
                    obtain ⟨aK, haK⟩ : ∃ x, x = (at'[i]).f1 := ⟨_, rfl⟩
                    obtain ⟨cs, hcs⟩ : ∃ x, x = row[i + 1] := ⟨_, rfl⟩
                    rw [← haK] at hx1 hf hkC
                    rw [← hcs] at hxd hf hkC
                    obtain ⟨z1, z2, z3, z4, z5, hz⟩ : ∃ a b c d e, rdS aK cs = (a, b, c, d, e) := ⟨_, _, _, _, _, rfl⟩
                    rw [hz] at hf hkC
                    have HF2 : Aside0 ((if z5 = true then finE name t2 at' row (i + 1) (acc ++ [(⟨z1, z2, z3, z4⟩ : S43)]) else (⟨#[]⟩, 0, [], 12)) = (r1, r2, r3, r4)) := ⟨hf⟩
                    have HKC := Aside0.mk hkC
                    clear hf hkC hz hcs haK HF hx0 hi1 ead
                    replace p3 := eq_true p3
                    replace q3 := eq_true q3
                    have hq3 : (i : Int) + 1 < (at'.length : Int) + 1 := by omega
                    have HSX : Aside0 (Below wr.heap.size wr wr) := ⟨Below.refl _ _⟩
                    go_upto_region 16 with (fail)
                    go_cut [12, 13] (fun v12 v13 wc => ∃ g14 : Nat, v12 = .pointer (some ⟨g14, 0, none⟩) ∧ v13 = .bool z5 ∧ Aside0 (wc.heap[g14]? = some (.cells #[.int .i64 z1, .int .i64 z2, .string z3, .bool z4] 43 (0, 0))) ∧ Aside0 (Below wr.heap.size wr wc))
                    case first =>
                      go_region_held3 (fun W' => W'.cell? ⟨g2, 1, none⟩ = some (.slice (some ae) at'.length c0) ∧ W'.cell? ⟨(ae.add (i * 2)).block, (ae.add (i * 2)).off + 1, none⟩ = some (.int .i64 aK) ∧ W'.cell? ⟨ad.block, ad.off + (i + 1), none⟩ = some (.string cs) ∧ Aside0 (Below wr.heap.size wr W')) (refine ⟨evB a1 ?_, evB hx1 ?_, evB hxd ?_, ?_⟩ <;> (repeat (first | assumption | exact HSX | exact And.right (And.right (And.right (by assumption))) | refine evD ?_ | refine evN ?_ | refine evC (by assumption) ?_ | refine evA ?_ | refine evS ?_))) ((go_at_call 32; (refine (refrainref4_cell.calls kC aK cs z1 z2 z3 z4 z5 _ HKC.out).mono ?_; rintro e w8 ⟨rfl, hb⟩; (first | (have K14 := Aside0.mk (blk_below (blk_drew (blk_new _ _)) hb); have h140 := blk_cell K14.out 0; have h141 := blk_cell K14.out 1; have h142 := blk_cell K14.out 2; have h143 := blk_cell K14.out 3; have h14z := fun j => blk_frozen K14.out j; have h14l := blk_lt K14.out) | skip))))
                      all_goals go_wp2
                      all_goals go_meet
                      all_goals (exact ⟨_, rfl, rfl, ⟨by first | exact blk_new _ _ | exact put4 K14.out⟩, And.right (And.right (And.right (by assumption)))⟩)
                    case rest =>
                      obtain ⟨g14, rfl, rfl, K14, HB7⟩ := hcut
                      replace K2 := Aside0.mk (blk_below K2.out HB7.out)
                      replace K4 := Aside0.mk (blk_below K4.out HB7.out)
                      replace K11 := Aside0.mk (blk_below K11.out HB7.out)
                      replace HR := Aside0.mk (Kd.R_below HR.out HB7.out)
                      replace HB := Aside0.mk (below_step HB.out HB7.out)
                      clear HB7 hx1 hxd HSX a1 hsum hd
                      cases z5 with
                      | false =>
                        have b0 : wc.cell? ⟨g4, 0, none⟩ = some (.string ⟨#[]⟩) := blk_cell K4.out 0
                        have b1 : wc.cell? ⟨g4, 1, none⟩ = some (.int .i64 0) := blk_cell K4.out 1
                        have b2 : wc.cell? ⟨g4, 2, none⟩ = some (.slice none 0 0) := blk_cell K4.out 2
                        have bz : ∀ j, wc.frozen? ⟨g4, j, none⟩ = false := fun j => blk_frozen K4.out j
                        have bl := blk_lt K4.out
                        have H := HF2.out
                        rw [if_neg (by decide)] at H
                        simp only [Prod.mk.injEq] at H
                        obtain ⟨rfl, rfl, rfl, rfl⟩ := H
                        clear HF2
                        go_wp2
                        refine bodyPost_ret (results_ct rfl _ _ g4 35 #[.string ⟨#[]⟩, .int .i64 0, .slice none 0 0] (0, 0) _ rfl (put3 K4.out) Tryz.underlying35 rfl (by kernel_rfl)) rfl ?_
                        exact ⟨_, rfl, Kd.R_nil _ _ _ _ _, below_put3 HB.out G4.out⟩
                      | true =>
                        have H := HF2.out
                        rw [if_pos rfl] at H
                        have HF3 := Aside0.mk H
                        clear HF2 H
                        have c0 : wc.cell? ⟨g11, 2, none⟩ = some (.slice Av acc.length cv) := blk_cell K11.out 2
                        have d0 : wc.cell? ⟨g14, 0, none⟩ = some (.int .i64 z1) := blk_cell K14.out 0
                        have d1 : wc.cell? ⟨g14, 1, none⟩ = some (.int .i64 z2) := blk_cell K14.out 1
                        have d2 : wc.cell? ⟨g14, 2, none⟩ = some (.string z3) := blk_cell K14.out 2
                        have d3 : wc.cell? ⟨g14, 3, none⟩ = some (.bool z4) := blk_cell K14.out 3
                        go_wp2_with (((with_reducible refine gate_builtin (b := .append) (xs := #[.tmp 95, .tmp 97]) rfl ?_); at_builtin; refine Kd.R_append k43 (w0 := w) w.heap.size rfl (.tmp 95) (.tmp 97) 33 43 (.agg #[(.int .i64 0), (.int .i64 0), (.string ⟨#[]⟩), (.bool false)]) 40 rfl Tryz.underlying33 info43 rfl (by decide) (by omega) (.slice Av acc.length cv) acc (⟨z1, z2, z3, z4⟩ : S43) [.int .i64 z1, .int .i64 z2, .string z3, .bool z4] (fun _ => True) (fun _ => False) rfl (by first | (go_simp; done) | (go_simp; rfl)) ?aP (fun _ hk => hk.elim) ?aF ?aO ?aB ?aS ?aL ?_; (case aP => exact k43_mkM _ _ _ (⟨z1, z2, z3, z4⟩ : S43)); (case aB => exact HB.out); (case aF => exact fun _ _ => trivial); (case aO => exact HR.out); (case aS => exact below_size HB.out); (case aL => have := HAL.out; have := HN.out; omega); intro v1 w1 ho hb1 hg hat; obtain ⟨A5, c5, e5⟩ := Kd.R_slice ho; rw [List.length_append, List.length_singleton] at e5; subst e5; have n2 := Aside0.mk (blk_grown K2.out hg (Kd.R_ne HR.out K2.out (by decide))); have n4 := Aside0.mk (blk_grown K4.out hg (Kd.R_ne HR.out K4.out (by decide))); have n11 := Aside0.mk (blk_grown K11.out hg (Kd.R_ne HR.out K11.out (by decide))); have e2 : w1.cell? ⟨g11, 2, none⟩ = some (.slice Av acc.length cv) := blk_cell n11.out 2; have ez : ∀ j, w1.frozen? ⟨g11, j, none⟩ = false := fun j => blk_frozen n11.out j; have el := blk_lt n11.out; have HO := Aside0.mk ho; have HB1 := Aside0.mk hb1; clear ho hb1 hat hg c0 d0 d1 d2 d3))
                        go_roundg (at'.length - (i + 1))
                        case measure => omega
                        case rel => exact ⟨i + 1, acc ++ [⟨z1, z2, z3, z4⟩], _, by first | rfl | go_num, by omega, ⟨by rw [List.length_append, HAL.out]; rfl⟩, HF3, ⟨Kd.R_mono (Kd.R_far (p := ⟨g11, 2, none⟩) (Kd.R_far1 HO.out rfl (Kd.R_ne HO.out n11.out (by decide))) (fun _ hk => hk.2) _) (fun _ _ => trivial)⟩, ⟨blk_far n2.out G211 _⟩, ⟨blk_far n4.out G411 _⟩, ⟨blk_put n11.out 2 _ rfl⟩, ⟨Below.setCell HB1.out G11.out _⟩⟩
                  · have hd : decide ((i : Int) < (at'.length : Int)) = false := decide_eq_false (by omega)
                    have e := HF.out
                    rw [finE_end name t2 at' row i acc (by omega)] at e
                    simp only [Prod.mk.injEq] at e
                    obtain ⟨rfl, rfl, rfl, rfl⟩ := e
                    clear HF
                    have c0 : wr.cell? ⟨g11, 0, none⟩ = some (.string name) := blk_cell K11.out 0
                    have c1 : wr.cell? ⟨g11, 1, none⟩ = some (.int .i64 t2) := blk_cell K11.out 1
                    have c2 : wr.cell? ⟨g11, 2, none⟩ = some (.slice Av acc.length cv) := blk_cell K11.out 2
                    have b0 : wr.cell? ⟨g4, 0, none⟩ = some (.string ⟨#[]⟩) := blk_cell K4.out 0
                    have b1 : wr.cell? ⟨g4, 1, none⟩ = some (.int .i64 0) := blk_cell K4.out 1
                    have b2 : wr.cell? ⟨g4, 2, none⟩ = some (.slice none 0 0) := blk_cell K4.out 2
                    have bz : ∀ j, wr.frozen? ⟨g4, j, none⟩ = false := fun j => blk_frozen K4.out j
                    have bl := blk_lt K4.out
                    go_wp2
                    refine bodyPost_ret (results_ct rfl _ _ g4 35 #[.string name, .int .i64 t2, .slice Av acc.length cv] (0, 0) _ rfl (put3 K4.out) Tryz.underlying35 rfl (by kernel_rfl)) rfl ?_
                    exact ⟨_, rfl, R_put3 HR.out K4.out (by decide), below_put3 HB.out G4.out⟩
      · have v1 : (t1 != 1) = true := bne_iff_ne.mpr h1
        obtain ⟨rfl, rfl, rfl, rfl⟩ := BAD.out (by rw [show (t1 == 1) = false from beq_eq_false_iff_ne.2 h1, Bool.and_false, Bool.false_and])
        clear h1
        go_wp2
        refine bodyPost_ret (results_ct rfl _ _ g4 35 #[.string ⟨#[]⟩, .int .i64 0, .slice none 0 0] (0, 0) _ rfl (put3 K4.out) Tryz.underlying35 rfl (by kernel_rfl)) rfl ?_
        exact ⟨_, rfl, Kd.R_nil _ _ _ _ _, below_put3 HB.out G4.out⟩
    · have v5 : (t5 != 0) = true := bne_iff_ne.mpr h5
      obtain ⟨rfl, rfl, rfl, rfl⟩ := BAD.out (by rw [show (t5 == 0) = false from beq_eq_false_iff_ne.2 h5, Bool.false_and, Bool.false_and])
      clear h5
      go_wp2
      refine bodyPost_ret (results_ct rfl _ _ g4 35 #[.string ⟨#[]⟩, .int .i64 0, .slice none 0 0] (0, 0) _ rfl (put3 K4.out) Tryz.underlying35 rfl (by kernel_rfl)) rfl ?_
      exact ⟨_, rfl, Kd.R_nil _ _ _ _ _, below_put3 HB.out G4.out⟩
  · have hx : ((row.length : Int) != wrap64 ((at'.length : Int) + 1)) = true := by rw [hw]; exact bne_iff_ne.2 (by omega)
    have H := H0.out
    unfold eventS at H
    rw [if_neg hlen] at H
    simp only [Prod.mk.injEq] at H
    obtain ⟨rfl, rfl, rfl, rfl⟩ := H
    clear H0
    go_wp2
    refine bodyPost_ret (results_ct rfl _ _ g4 35 #[.string ⟨#[]⟩, .int .i64 0, .slice none 0 0] (0, 0) _ rfl (put3 K4.out) Tryz.underlying35 rfl (by kernel_rfl)) rfl ?_
    exact ⟨_, rfl, Kd.R_nil _ _ _ _ _, below_put3 HB.out G4.out⟩
end Go.Proofs.YtpkbhfdfgapmlaaGreatDoor.Pr
end

/-! ## text ExtRr -/
section
/- refrainref4.Row, walked by hand: it answers as csv.Row is said to. -/
namespace Go.Proofs.YtpkbhfdfgapmlaaGreatDoor.Pr
open Go Go.RowKit Go.Proofs.YtpkbhfdfgapmlaaGreatDoor.Pv Go.Proofs.YtpkbhfdfgapmlaaGreatDoorW.PrintWords Go.Proofs.YtpkbhfdfgapmlaaGreatDoorW.PrintLast Go.Proofs.YtpkbhfdfgapmlaaGreatDoorW.PrintMore
set_option maxRecDepth 100000
set_option linter.unusedVariables false
set_option linter.unusedSimpArgs false
attribute [local go_sem ↓] Go.wp_at_zero Go.wp_at_succ
/-- What stands when a row's cells from the i-th on are told. -/
def finR (at' : List (S30)) (vals : List (S43)) (i : Nat) (acc : List ByteArray) : List ByteArray × Int := if (cellsL (at'.drop i) (vals.drop i)).2 = 0 then (acc ++ (cellsL (at'.drop i) (vals.drop i)).1, 0) else ([], (cellsL (at'.drop i) (vals.drop i)).2)
theorem finR_end (at' : List (S30)) (vals : List (S43)) (i : Nat) (acc : List ByteArray) (h : vals.length ≤ i) : finR at' vals i acc = (acc, 0) := by
  unfold finR
  rw [List.drop_eq_nil_of_le h]
  have e : cellsL (at'.drop i) [] = ([], 0) := by cases at'.drop i <;> rfl
  rw [e, if_pos rfl, List.append_nil]
theorem finR_step (at' : List (S30)) (vals : List (S43)) (i : Nat) (acc : List ByteArray) (hi : i < vals.length) (ha : i < at'.length) :
    finR at' vals i acc = if okW vals[i] = true then (if (vals[i]).f0 = (at'[i]).f1 then finR at' vals (i + 1) (acc ++ [wrS vals[i]]) else ([], 10)) else ([], 12) := by
  unfold finR
  rw [List.drop_eq_getElem_cons hi, List.drop_eq_getElem_cons ha]
  rw [show cellsL (at'[i] :: at'.drop (i + 1)) (vals[i] :: vals.drop (i + 1)) = if okW vals[i] = true then (if (vals[i]).f0 = (at'[i]).f1 then (if (cellsL (at'.drop (i + 1)) (vals.drop (i + 1))).2 = 0 then (wrS vals[i] :: (cellsL (at'.drop (i + 1)) (vals.drop (i + 1))).1, 0) else ([], (cellsL (at'.drop (i + 1)) (vals.drop (i + 1))).2)) else ([], 10)) else ([], 12) by rw [cellsL]]
  by_cases h1 : okW vals[i] = true
  · rw [if_pos h1, if_pos h1]
    by_cases h2 : (vals[i]).f0 = (at'[i]).f1
    · rw [if_pos h2, if_pos h2]
      by_cases h3 : (cellsL (at'.drop (i + 1)) (vals.drop (i + 1))).2 = 0
      · simp [h3]
      · simp [h3]
    · rw [if_neg h2, if_neg h2]; rfl
  · rw [if_neg h1, if_neg h1]; rfl
theorem show_err (v : S43) : (showV v.f0 v.f1 v.f2 v.f3).2 = if okW v = true then 0 else 12 := by
  unfold showV okW
  by_cases h : validV v.f0 v.f1 v.f2 v.f3 = true
  · rw [h, if_neg (by decide), if_pos rfl]
    repeat' split
    all_goals rfl
  · have h' : validV v.f0 v.f1 v.f2 v.f3 = false := by simpa using h
    rw [h', if_pos rfl, if_neg (by decide)]
set_option maxHeartbeats 16000000 in
theorem ref_Row (name : ByteArray) (A0 : Option Addr) (c0 : Nat) (at' : List (S30)) (tn : ByteArray) (tm : Int) (A1 : Option Addr) (c1 : Nat) (vals : List (S43)) (r1 : List ByteArray) (r2 : Int) (w : World)
    (hr0 : Kd.C k30 w A0 at'.length at') (hc0 : at'.length ≤ c0) (hr1 : Kd.C k43 w A1 vals.length vals) (hc1 : vals.length ≤ c1) (hn : at'.length ≤ 3518437208882) (hs : ∀ v : S43, wfW v → ∃ k, refrainref1_Show.f k v.f0 v.f1 v.f2 v.f3 = some (showV v.f0 v.f1 v.f2 v.f3)) (hw : ∀ v ∈ vals, wfW v) (h : rowS name at' tn tm vals = (r1, r2)) :
    Calls Tryz.prog 15 #[.agg #[.string name, .slice A0 at'.length c0], .agg #[.string tn, .int .i64 tm, .slice A1 vals.length c1]] w fun e w' => ∃ v0_ : Value, e = .returned (.tuple #[v0_, .int .i64 r2]) ∧ Kd.R Kd.string 9 w' w.heap.size (fun _ => True) v0_ r1 ∧ Below w.heap.size w w' := by
  have HR0 := Aside0.mk hr0
  have HR1 := Aside0.mk hr1
  have HN := Aside0.mk hn
  have HS := Aside0.mk hs
  have HW := Aside0.mk hw
  have H0 := Aside0.mk h
  clear hr0 hc0 hr1 hc1 hs h hn hw
  go_enter Tryz.func15, Tryz.ntmps15
  go_upto_region 1 with (fail)
  obtain ⟨g2, e2⟩ : ∃ g, g = w.heap.size := ⟨_, rfl⟩
  obtain ⟨g3, e3⟩ : ∃ g, g = w.heap.size + 1 := ⟨_, rfl⟩
  obtain ⟨w1, hw1⟩ : ∃ w1, w1 = (w.alloc (.cells #[.string name, .slice A0 at'.length c0] 24)).alloc (.cells #[.string tn, .int .i64 tm, .slice A1 vals.length c1] 35) := ⟨_, rfl⟩
  have K2 : Aside0 (w1.heap[g2]? = some (.cells #[.string name, .slice A0 at'.length c0] 24 (0, 0))) := ⟨by rw [hw1, e2]; exact blk_alloc (blk_new _ _) _⟩
  have K3 : Aside0 (w1.heap[g3]? = some (.cells #[.string tn, .int .i64 tm, .slice A1 vals.length c1] 35 (0, 0))) := ⟨by rw [hw1, e3]; exact blk_new1 _ _ _⟩
  have HB : Aside0 (Below w.heap.size w w1) := ⟨by rw [hw1]; exact below_alloc (below_alloc (Below.refl _ _) _) _⟩
  rw [← e3, ← e2, ← hw1]
  clear e2 e3 hw1
  have a0 : w1.cell? ⟨g2, 0, none⟩ = some (.string name) := blk_cell K2.out 0
  have a1 : w1.cell? ⟨g2, 1, none⟩ = some (.slice A0 at'.length c0) := blk_cell K2.out 1
  have b0 : w1.cell? ⟨g3, 0, none⟩ = some (.string tn) := blk_cell K3.out 0
  have b1 : w1.cell? ⟨g3, 1, none⟩ = some (.int .i64 tm) := blk_cell K3.out 1
  have b2 : w1.cell? ⟨g3, 2, none⟩ = some (.slice A1 vals.length c1) := blk_cell K3.out 2
  by_cases htn : tn.toList = name.toList
  · have H := H0.out
    unfold rowS at H
    rw [if_pos htn] at H
    replace H0 := Aside0.mk H
    have t1 : (tn.toList == name.toList) = true := beq_iff_eq.mpr htn
    have t2 : (tn.toList != name.toList) = false := bne_eq_false_iff_eq.mpr htn
    clear H htn
    by_cases htm : 0 ≤ tm ∧ tm ≤ 4611686018427387904
    · have H := H0.out
      rw [if_pos htm] at H
      replace H0 := Aside0.mk H
      have l1 : decide (tm < 0) = false := decide_eq_false (by omega)
      have l2 : decide (4611686018427387904 < tm) = false := decide_eq_false (by omega)
      have HTM := Aside0.mk htm
      clear H htm
      by_cases hlen : vals.length = at'.length
      · have H := H0.out
        rw [if_pos hlen] at H
        have HF : Aside0 (finR at' vals 0 [(showV 1 tm ⟨#[]⟩ false).1] = (r1, r2)) := ⟨by rw [← H]; rfl⟩
        have hsh : ∃ k, refrainref1_Show.f k 1 tm ⟨#[]⟩ false = some (showV 1 tm ⟨#[]⟩ false) := HS.out ⟨1, tm, ⟨#[]⟩, false⟩ ⟨by have := HTM.out; show (-9223372036854775808 : Int) ≤ tm; omega, by have := HTM.out; show tm ≤ 9223372036854775807; omega⟩
        obtain ⟨kS, hkS⟩ := hsh
        obtain ⟨s0, e0, he0⟩ : ∃ s e, showV 1 tm ⟨#[]⟩ false = (s, e) := ⟨_, _, rfl⟩
        rw [he0] at hkS
        replace HF : Aside0 (finR at' vals 0 [s0] = (r1, r2)) := ⟨by have := HF.out; rwa [he0] at this⟩
        have HKS := Aside0.mk hkS
        have u1 : ((vals.length : Int) != (at'.length : Int)) = false := bne_eq_false_iff_eq.mpr (by omega)
        have HLE := Aside0.mk hlen
        clear H hkS he0 hlen H0
        go_upto_region 9 with (first | (go_at_call 34; refine (refrainref1_Show.calls kS 1 tm ⟨#[]⟩ false s0 e0 w1 HKS.out).mono ?_; rintro e w7 ⟨rfl, hb⟩; replace K2 := Aside0.mk (blk_below K2.out hb); replace K3 := Aside0.mk (blk_below K3.out hb); replace HB := Aside0.mk (below_step HB.out hb); clear hb a0 a1 b0 b1 b2) | ((with_reducible refine gate_dst (N := 41) rfl ?_); refine Kd.R_lit Kd.string _ 9 ?hg (N := 41) ?hd (xs := ([s0] : List ByteArray)) (inner := [.string s0]) (ok := fun _ => True) (okp := fun _ => True) ?hr ?hp (fun _ hk => hk) trivial (Below.refl _ _) (Nat.le_refl _) (by simp) ?_; (case hd => rfl); (case hg => rfl); (case hr => first | (go_simp; done) | (go_simp; rfl)); (case hp => exact (Reps.one (show Kd.M Kd.string _ _ _ s0 [.string s0] from rfl) (Reps.none _ _))); intro v41 w8 ho hb hg_ hnew_; clear hg_ hnew_; have HO := Aside0.mk (Kd.R_lower ho (below_size HB.out)); replace K2 := Aside0.mk (blk_below K2.out hb); replace K3 := Aside0.mk (blk_below K3.out hb); replace HB := Aside0.mk (below_step HB.out hb); clear hb ho))
        clear t1 t2 l1 l2 u1
        go_wp2
        go_loopg [9, 8] vals.length (fun gk v9 v8 wx => ∃ (i : Nat) (acc : List ByteArray), v9 = .int .i64 i ∧ i + gk = vals.length ∧ Aside0 (finR at' vals i acc = (r1, r2)) ∧ Aside0 (acc.length = i + 1) ∧ Aside0 (Kd.R Kd.string 9 wx w.heap.size (fun _ => True) v8 acc) ∧ Aside0 (wx.heap[g2]? = some (.cells #[.string name, .slice A0 at'.length c0] 24 (0, 0))) ∧ Aside0 (wx.heap[g3]? = some (.cells #[.string tn, .int .i64 tm, .slice A1 vals.length c1] 35 (0, 0))) ∧ Aside0 (Below w.heap.size w wx))
        case atStart => exact ⟨0, [s0], rfl, by omega, HF, ⟨rfl⟩, HO, K2, K3, HB⟩
        case round =>
          clear K2 K3 HB HO HF
          obtain ⟨i, acc, rfl, hig, HF, HAL, HO, K2, K3, HB⟩ := hrel
          obtain ⟨A7, c7, e7⟩ := Kd.R_slice HO.out
          subst e7
          have hn9 : vals.length ≤ 3518437208882 := by have := HLE.out; have := HN.out; omega
          have b2 : wr.cell? ⟨g3, 2, none⟩ = some (.slice A1 vals.length c1) := blk_cell K3.out 2
          by_cases hi : i < vals.length
          · have hd : decide ((i : Int) < (vals.length : Int)) = true := decide_eq_true (by omega)
            have hla := HLE.out
            have p1 : 0 ≤ (i : Int) := by omega
            have q1 : (i : Int) < (vals.length : Int) := by omega
            have q2 : (i : Int) < (at'.length : Int) := by omega
            have hia : i < at'.length := by omega
            obtain ⟨ad, ed, hx0, hx1, hx2, hx3⟩ := at_T43 HR1.out (i : Int) p1 q1
            cases ed
            obtain ⟨ae, ee, hy0, hy1⟩ := at_T30 HR0.out (i : Int) p1 q2
            cases ee
            rw [Int.toNat_natCast] at hx0 hx1 hx2 hx3 hy0 hy1
            rw [rd43_eq hi] at hx0 hx1 hx2 hx3
            rw [rd30_eq hia] at hy1
            have hf := HF.out
            rw [finR_step at' vals i acc hi hia] at hf
            have hwf := HW.out _ (List.getElem_mem hi)
            obtain ⟨kS, hkS⟩ := HS.out _ hwf
            have herr := show_err vals[i]
            have hwr : wrS vals[i] = if (vals[i]).f0 = 2 then (vals[i]).f2 else (showV (vals[i]).f0 (vals[i]).f1 (vals[i]).f2 (vals[i]).f3).1 := rfl
            obtain ⟨v, hv⟩ : ∃ x, x = vals[i] := ⟨_, rfl⟩
            obtain ⟨aK, haK⟩ : ∃ x, x = (at'[i]).f1 := ⟨_, rfl⟩
            rw [← hv] at hx0 hx1 hx2 hx3 hf hkS herr hwr
            rw [← haK] at hy1 hf
            clear hv haK hwf hy0
            obtain ⟨z1, z2, z3, z4⟩ := v
            obtain ⟨sx, ex, hsx⟩ : ∃ s e, showV z1 z2 z3 z4 = (s, e) := ⟨_, _, rfl⟩
            replace hkS : refrainref1_Show.f kS z1 z2 z3 z4 = some (sx, ex) := by rw [← hsx]; exact hkS
            replace herr : ex = if okW (⟨z1, z2, z3, z4⟩ : S43) = true then 0 else 12 := by rw [← herr]; exact (congrArg Prod.snd hsx).symm
            replace hwr : wrS (⟨z1, z2, z3, z4⟩ : S43) = if z1 = 2 then z3 else sx := by rw [hwr]; show (if z1 = 2 then z3 else (showV z1 z2 z3 z4).1) = _; rw [hsx]
            have HF2 := Aside0.mk hf
            have HKS := Aside0.mk hkS
            have HWR := Aside0.mk hwr
            have HER := Aside0.mk herr
            replace hx0 := (HB.out.cell (World.block_lt_of_cell? w _ hx0)).trans hx0
            replace hx1 := (HB.out.cell (World.block_lt_of_cell? w _ hx1)).trans hx1
            replace hx2 := (HB.out.cell (World.block_lt_of_cell? w _ hx2)).trans hx2
            replace hx3 := (HB.out.cell (World.block_lt_of_cell? w _ hx3)).trans hx3
            have HY1 : Aside0 (∀ W', Below w.heap.size w W' → W'.cell? _ = some (.int .i64 aK)) := ⟨fun W' h => pw_cell_below h hy1⟩
            clear hf hkS hwr herr hsx HF hla hia hy1
            replace p1 := eq_true p1
            replace q1 := eq_true q1
            replace q2 := eq_true q2
            go_upto_region 13 with (fail)
            obtain ⟨g10, e10⟩ : ∃ g, g = wr.heap.size := ⟨_, rfl⟩
            obtain ⟨w9, hw9⟩ : ∃ w9, w9 = wr.alloc (.cells #[.int .i64 z1, .int .i64 z2, .string z3, .bool z4] 43) := ⟨_, rfl⟩
            have K9 : Aside0 (w9.heap[g10]? = some (.cells #[.int .i64 z1, .int .i64 z2, .string z3, .bool z4] 43 (0, 0))) := ⟨by rw [hw9, e10]; exact blk_new _ _⟩
            replace K2 : Aside0 (w9.heap[g2]? = some (.cells #[.string name, .slice (some ae) at'.length c0] 24 (0, 0))) := ⟨by rw [hw9]; exact blk_alloc K2.out _⟩
            replace K3 : Aside0 (w9.heap[g3]? = some (.cells #[.string tn, .int .i64 tm, .slice (some ad) vals.length c1] 35 (0, 0))) := ⟨by rw [hw9]; exact blk_alloc K3.out _⟩
            replace HO : Aside0 (Kd.R Kd.string 9 w9 w.heap.size (fun _ => True) (.slice A7 acc.length c7) acc) := ⟨by rw [hw9]; exact Kd.R_alloc HO.out _⟩
            replace HB : Aside0 (Below w.heap.size w w9) := ⟨by rw [hw9]; exact below_alloc HB.out _⟩
            rw [← hw9, ← e10]
            clear hw9 e10 hx0 hx1 hx2 hx3 hd b2
            have c90 : w9.cell? ⟨g10, 0, none⟩ = some (.int .i64 z1) := blk_cell K9.out 0
            have c91 : w9.cell? ⟨g10, 1, none⟩ = some (.int .i64 z2) := blk_cell K9.out 1
            have c92 : w9.cell? ⟨g10, 2, none⟩ = some (.string z3) := blk_cell K9.out 2
            have c93 : w9.cell? ⟨g10, 3, none⟩ = some (.bool z4) := blk_cell K9.out 3
            go_upto_region 14 with (go_at_call 34; refine (refrainref1_Show.calls kS z1 z2 z3 z4 sx ex w9 HKS.out).mono ?_; rintro e w10 ⟨rfl, hb⟩; replace K2 := Aside0.mk (blk_below K2.out hb); replace K3 := Aside0.mk (blk_below K3.out hb); replace K9 := Aside0.mk (blk_below K9.out hb); replace HO := Aside0.mk (Kd.R_below HO.out hb); replace HB := Aside0.mk (below_step HB.out hb); clear hb c90 c91 c92 c93)
            by_cases hok : okW (⟨z1, z2, z3, z4⟩ : S43) = true
            · have hf := HF2.out
              rw [if_pos hok] at hf
              have he := HER.out
              rw [if_pos hok] at he
              have v1 : (ex != 0) = false := bne_eq_false_iff_eq.mpr he
              have c90 : w10.cell? ⟨g10, 0, none⟩ = some (.int .i64 z1) := blk_cell K9.out 0
              have a1 : w10.cell? ⟨g2, 1, none⟩ = some (.slice (some ae) at'.length c0) := blk_cell K2.out 1
              have hy1 := HY1.out _ HB.out
              clear he hok
              by_cases hk : z1 = aK
              · have hf2 := hf
                rw [if_pos (show (⟨z1, z2, z3, z4⟩ : S43).f0 = aK from hk)] at hf2
                have HF3 := Aside0.mk hf2
                have u1 : (z1 != aK) = false := bne_eq_false_iff_eq.mpr hk
                have u2 : (z1 == aK) = true := beq_iff_eq.mpr hk
                clear hf hf2 hk
                go_upto_region 16 with (fail)
                go_quiet (fail)
                replace K2 := Aside0.mk (blk_drewN K2.out nq)
                replace K3 := Aside0.mk (blk_drewN K3.out nq)
                replace K9 := Aside0.mk (blk_drewN K9.out nq)
                replace HO := Aside0.mk (Kd.R_drewN HO.out nq)
                replace HB := Aside0.mk (pw_below_drewN HB.out nq)
                clear c90 a1 hy1 HY1 u1 u2 v1
                generalize w10.drewN nq = w11 at *
                have c90 : w11.cell? ⟨g10, 0, none⟩ = some (.int .i64 z1) := blk_cell K9.out 0
                have c92 : w11.cell? ⟨g10, 2, none⟩ = some (.string z3) := blk_cell K9.out 2
                by_cases h2 : z1 = 2
                · have x1 : (z1 == 2) = true := beq_iff_eq.mpr h2
                  replace HF3 : Aside0 (finR at' vals (i + 1) (acc ++ [z3]) = (r1, r2)) := ⟨by have h := HF3.out; rwa [HWR.out, if_pos h2] at h⟩
                  clear h2
                  go_wp2_with (((with_reducible refine gate_builtin (b := .append) (xs := #[.tmp 75, .tmp 77]) rfl ?_); at_builtin; refine Kd.R_append Kd.string (w0 := w) w.heap.size rfl (.tmp 75) (.tmp 77) 39 9 (.string ⟨#[]⟩) 16 rfl Tryz.underlying39 info9 rfl (by decide) (by omega) (.slice A7 acc.length c7) acc z3 [.string z3] (fun _ => True) (fun _ => False) rfl (by first | (go_simp; done) | (go_simp; rfl)) ?aP (fun _ hk => hk.elim) ?aF ?aO ?aB ?aS ?aL ?_; (case aP => exact rfl); (case aF => exact fun _ _ => trivial); (case aO => exact HO.out); (case aB => exact HB.out); (case aS => exact below_size HB.out); (case aL => have := HAL.out; omega); intro v5 w5 ho hb hg hat; have HO5 := Aside0.mk ho; have HB5 := Aside0.mk hb; replace K2 := Aside0.mk (blk_grown K2.out hg (Kd.R_ne HO.out K2.out (by decide))); replace K3 := Aside0.mk (blk_grown K3.out hg (Kd.R_ne HO.out K3.out (by decide))); clear ho hb hg hat c90 c92))
                  go_roundg (vals.length - (i + 1))
                  case measure => omega
                  case rel => exact ⟨i + 1, acc ++ [z3], by first | rfl | go_num, by omega, HF3, ⟨by rw [List.length_append, HAL.out]; rfl⟩, HO5, K2, K3, HB5⟩
                · have x1 : (z1 == 2) = false := beq_eq_false_iff_ne.mpr h2
                  replace HF3 : Aside0 (finR at' vals (i + 1) (acc ++ [sx]) = (r1, r2)) := ⟨by have h := HF3.out; rwa [HWR.out, if_neg h2] at h⟩
                  clear h2
                  go_wp2_with (((with_reducible refine gate_builtin (b := .append) (xs := #[.tmp 75, .tmp 77]) rfl ?_); at_builtin; refine Kd.R_append Kd.string (w0 := w) w.heap.size rfl (.tmp 75) (.tmp 77) 39 9 (.string ⟨#[]⟩) 16 rfl Tryz.underlying39 info9 rfl (by decide) (by omega) (.slice A7 acc.length c7) acc sx [.string sx] (fun _ => True) (fun _ => False) rfl (by first | (go_simp; done) | (go_simp; rfl)) ?aP (fun _ hk => hk.elim) ?aF ?aO ?aB ?aS ?aL ?_; (case aP => exact rfl); (case aF => exact fun _ _ => trivial); (case aO => exact HO.out); (case aB => exact HB.out); (case aS => exact below_size HB.out); (case aL => have := HAL.out; omega); intro v5 w5 ho hb hg hat; have HO5 := Aside0.mk ho; have HB5 := Aside0.mk hb; replace K2 := Aside0.mk (blk_grown K2.out hg (Kd.R_ne HO.out K2.out (by decide))); replace K3 := Aside0.mk (blk_grown K3.out hg (Kd.R_ne HO.out K3.out (by decide))); clear ho hb hg hat c90 c92))
                  go_roundg (vals.length - (i + 1))
                  case measure => omega
                  case rel => exact ⟨i + 1, acc ++ [sx], by first | rfl | go_num, by omega, HF3, ⟨by rw [List.length_append, HAL.out]; rfl⟩, HO5, K2, K3, HB5⟩
              · rw [if_neg (show ¬ (⟨z1, z2, z3, z4⟩ : S43).f0 = aK from hk)] at hf
                simp only [Prod.mk.injEq] at hf
                obtain ⟨rfl, rfl⟩ := hf
                have u1 : (z1 != aK) = true := bne_iff_ne.mpr hk
                have u2 : (z1 == aK) = false := beq_eq_false_iff_ne.mpr hk
                clear hk
                go_upto_region 16 with (fail)
                go_quiet (fail)
                go_wp2
                go_ret2
                exact ⟨_, rfl, Kd.R_nil _ _ _ _ _, by first | exact pw_below_drewN HB.out _ | exact HB.out⟩
            · have hf := HF2.out
              rw [if_neg hok] at hf
              simp only [Prod.mk.injEq] at hf
              obtain ⟨rfl, rfl⟩ := hf
              have he := HER.out
              rw [if_neg hok] at he
              have v1 : (ex != 0) = true := bne_iff_ne.mpr (by rw [he]; decide)
              clear he hok
              go_wp2
              go_ret2
              exact ⟨_, rfl, Kd.R_nil _ _ _ _ _, HB.out⟩
          · have hd : decide ((i : Int) < (vals.length : Int)) = false := decide_eq_false (by omega)
            have e := HF.out
            rw [finR_end at' vals i acc (by omega)] at e
            simp only [Prod.mk.injEq] at e
            obtain ⟨rfl, rfl⟩ := e
            clear HF
            go_wp2
            go_ret2
            exact ⟨_, rfl, HO.out, HB.out⟩
      · have H := H0.out
        rw [if_neg hlen] at H
        simp only [Prod.mk.injEq] at H
        obtain ⟨rfl, rfl⟩ := H
        have u1 : ((vals.length : Int) != (at'.length : Int)) = true := bne_iff_ne.mpr (by omega)
        clear H0 hlen
        go_wp2
        go_ret2
        exact ⟨_, rfl, Kd.R_nil _ _ _ _ _, HB.out⟩
    · have H := H0.out
      rw [if_neg htm] at H
      simp only [Prod.mk.injEq] at H
      obtain ⟨rfl, rfl⟩ := H
      clear H0
      by_cases h1 : tm < 0
      · have l1 : decide (tm < 0) = true := decide_eq_true h1
        go_wp2
        go_ret2
        exact ⟨_, rfl, Kd.R_nil _ _ _ _ _, HB.out⟩
      · have l1 : decide (tm < 0) = false := decide_eq_false h1
        have l2 : decide (4611686018427387904 < tm) = true := decide_eq_true (by omega)
        go_wp2
        go_ret2
        exact ⟨_, rfl, Kd.R_nil _ _ _ _ _, HB.out⟩
  · have H := H0.out
    unfold rowS at H
    rw [if_neg htn] at H
    simp only [Prod.mk.injEq] at H
    obtain ⟨rfl, rfl⟩ := H
    have t1 : (tn.toList == name.toList) = false := beq_eq_false_iff_ne.mpr htn
    have t2 : (tn.toList != name.toList) = true := bne_iff_ne.mpr htn
    clear H0 htn
    go_wp2
    go_ret2
    exact ⟨_, rfl, Kd.R_nil _ _ _ _ _, HB.out⟩
end Go.Proofs.YtpkbhfdfgapmlaaGreatDoor.Pr
end

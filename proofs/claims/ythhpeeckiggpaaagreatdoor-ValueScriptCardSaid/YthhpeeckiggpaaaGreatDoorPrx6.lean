-- printed by a patched copy of the kit's print, for this seat
import Derived.Test.YthhpeeckiggpaaaGreatDoorPrx0
import Derived.Test.YthhpeeckiggpaaaGreatDoorPrx1
import Derived.Test.YthhpeeckiggpaaaGreatDoorPrx2
import Derived.Test.YthhpeeckiggpaaaGreatDoorPrx4
import Derived.Test.YthhpeeckiggpaaaGreatDoorPrx5
import Derived.Test.YthhpeeckiggpaaaGreatDoorExtPI
import Derived.Test.YthhpeeckiggpaaaGreatDoorExtV1
namespace Go.Proofs.YthhpeeckiggpaaaGreatDoor.Pr
open Go.RowKit Go.Proofs.YthhpeeckiggpaaaGreatDoorW.PrintWords Go.Proofs.YthhpeeckiggpaaaGreatDoorW.PrintLast Go.Proofs.YthhpeeckiggpaaaGreatDoorW.PrintMore
attribute [local go_sem] max2_int min2_int max_two min_two max_three min_three max_four min_four   -- for this text's walks alone
attribute [local go_sem high] Go.Proofs.YthhpeeckiggpaaaGreatDoor.isSome_setCell
set_option maxRecDepth 100000
set_option linter.unusedVariables false
set_option linter.unusedSimpArgs false

attribute [local go_sem high] eqA27
/-! ### value_guess: function 26 -/
def value_guess.j0 : Nat → ByteArray → Bool → Option (Int × Int × ByteArray × Bool × Bool)
  | 0, _, _ => none
  | k + 1, x0, x8 => if x8 = true then ((value_truth.f (x0.toList == ([84, 82, 85, 69] : List UInt8))).bind fun bt190 => (some (bt190.1, bt190.2.1, bt190.2.2.1, bt190.2.2.2, true))) else ((strings_HasPrefix.f x0 (⟨#[34]⟩ : ByteArray)).bind fun t194 => (if t194 = true then ((value_unquoted.f k x0).bind fun bt195 => ((value_text.f bt195.1).bind fun bt197 => (some (bt197.1, bt197.2.1, bt197.2.2.1, bt197.2.2.2, bt195.2)))) else ((strconv_ParseInt.f x0 10 64).bind fun bt201 => ((value_number.f bt201.1).bind fun bt203 => (if bt201.2.isNone = true then (some (bt203.1, bt203.2.1, bt203.2.2.1, bt203.2.2.2, true)) else (some (bt203.1, bt203.2.1, bt203.2.2.1, bt203.2.2.2, false)))))))
def value_guess.f (k : Nat) (a0 : ByteArray) : Option (Int × Int × ByteArray × Bool × Bool) := if a0.toList = ([84, 82, 85, 69] : List UInt8) then (value_guess.j0 k a0 true) else (value_guess.j0 k a0 (a0.toList == ([70, 65, 76, 83, 69] : List UInt8)))
set_option maxRecDepth 100000 in
theorem value_guess.j0_zero : ∀ y0 y1, value_guess.j0 0 y0 y1 = none := fun _ _ => rfl
set_option maxRecDepth 100000 in
theorem value_guess.mono_l : ∀ k, (∀ y0 y1, LeO (value_guess.j0 k y0 y1) (value_guess.j0 (k + 1) y0 y1))
  | 0 => fun _ _ r h => by (unfold value_guess.j0 at h; cases h)
  | k + 1 => by
    have ih0 := value_guess.mono_l k
    · intro y0 y1
      unfold value_guess.j0
      repeat' first
      | (with_reducible exact ih0 _ _)
      | (with_reducible exact value_unquoted.mono _ _)
      | (with_reducible exact LeO.refl _)
      | (with_reducible exact LeO.none _)
      | (with_reducible refine LeO.ite ?_ ?_)
      | (with_reducible refine LeO.bind ?_ (fun _ => ?_))
      | exact ih0 _ _
      | exact value_unquoted.mono _ _
      | exact LeO.none _
      | refine LeO.ite ?_ ?_
      | refine LeO.bind ?_ (fun _ => ?_)
set_option maxRecDepth 100000 in
theorem value_guess.mono : ∀ a0 k, LeO (value_guess.f k a0) (value_guess.f (k + 1) a0) := by
  intro a0 k
  have ih0 := value_guess.mono_l k
  unfold value_guess.f
  repeat' first
      | (with_reducible exact ih0 _ _)
      | (with_reducible exact value_unquoted.mono _ _)
      | (with_reducible exact LeO.refl _)
      | (with_reducible exact LeO.none _)
      | (with_reducible refine LeO.ite ?_ ?_)
      | (with_reducible refine LeO.bind ?_ (fun _ => ?_))
      | exact ih0 _ _
      | exact value_unquoted.mono _ _
      | exact LeO.none _
      | refine LeO.ite ?_ ?_
      | refine LeO.bind ?_ (fun _ => ?_)
set_option maxHeartbeats 8000000 in
set_option maxRecDepth 100000 in
theorem value_guess.calls (k : Nat) (a0 : ByteArray) (r1 : Int) (r2 : Int) (r3 : ByteArray) (r4 : Bool) (r5 : Bool) (w : World) (HL_LErr : Aside0 (LErr w)) (HL_LSyn : Aside0 (LSyn w)) (h : value_guess.f k a0 = some (r1, r2, r3, r4, r5)) :
    Calls Tryz.prog 26 #[.string a0] w fun e w' => e = .returned (.tuple #[.agg #[.int .i64 r1, .int .i64 r2, .string r3, .bool r4], .bool r5]) ∧ Below w.heap.size w w' := by
  have hu27 := Tryz.underlying27
  have hu64 := Tryz.underlying64
  have HB := Aside0.mk (Below.refl w.heap.size w)
  have H : (if a0.toList = ([84, 82, 85, 69] : List UInt8) then (value_guess.j0 k a0 true) else (value_guess.j0 k a0 (a0.toList == ([70, 65, 76, 83, 69] : List UInt8)))) = some (r1, r2, r3, r4, r5) := h
  clear h
  have HC2 := Aside0.mk H
  clear H
  go_enter Tryz.func26, Tryz.ntmps26
  go_upto_region 1 with (first | ((with_reducible refine gate_dst (N := 2) rfl ?_); refine box_event ?hg (N := 2) ?hd (cs := #[.int .i64 0, .int .i64 0, .string (⟨#[]⟩ : ByteArray), .bool false]) (t := 27) ?hr ?_; (case hd => rfl); (case hg => rfl); (case hr => first | (go_simp; done) | (go_simp; rfl)); intro gb189 hg w3 hbox hb; have BK189 := Aside0.mk hbox; have GW189 := geA hg HB; have GE189 := geA hg HB; replace HB := bsA HB hb; clear hb hbox hg))
  (try simp only [Act.put, List.setIfInBounds_toArray, List.set_cons_zero, List.set_cons_succ])
  go_cut [8] (fun v8 wc => ∃ (kq : Nat) (x8_1 : Bool), v8 = .bool x8_1 ∧ Aside0 (value_guess.j0 kq a0 x8_1 = some (r1, r2, r3, r4, r5)) ∧ Aside0 (kq ≤ k) ∧ Aside0 (wc.heap[gb189]? = some (.cells #[.int .i64 0, .int .i64 0, .string (⟨#[]⟩ : ByteArray), .bool false] 27 (0, 0))) ∧ Aside0 (Below w.heap.size w wc))
  case first =>
    have H := HC2.out
    clear HC2
    by_cases c4 : a0.toList = ([84, 82, 85, 69] : List UInt8)
    · rw [if_pos c4] at H
      have c4b0 : (a0.toList == ([84, 82, 85, 69] : List UInt8)) = true := beq_iff_eq.mpr c4
      have c4b1 : (a0.toList != ([84, 82, 85, 69] : List UInt8)) = false := bne_eq_false_iff_eq.mpr c4
      clear c4
      (first | rw [c4b0] | (simp only [i64_w, i32_w, IntKind.wrap_u8, IntKind.wrap_u16, IntKind.wrap_u32]; rw [c4b0]) | skip)
      have H' := Aside0.mk H
      clear H
      go_wp2
      go_meet
      case rel => exact ⟨_, (true), (by first | rfl | (simp; done) | (simp [*]; done) | (simp; unfold wrap64; omega) | (congr 1; (try rw [Bool.eq_iff_iff]); simp [List.isEmpty_iff]; done)), H', ⟨by first | omega | exact Nat.le_refl _⟩, ⟨bkT BK189.out⟩, ⟨hbT HB.out⟩⟩
    · rw [if_neg c4] at H
      have c4b0 : (a0.toList == ([84, 82, 85, 69] : List UInt8)) = false := beq_eq_false_iff_ne.mpr c4
      have c4b1 : (a0.toList != ([84, 82, 85, 69] : List UInt8)) = true := bne_iff_ne.mpr c4
      (first | rw [c4b0] | (simp only [i64_w, i32_w, IntKind.wrap_u8, IntKind.wrap_u16, IntKind.wrap_u32]; rw [c4b0]) | skip)
      have H' := Aside0.mk H
      clear H
      go_wp2
      go_meet
      case rel => exact ⟨_, ((a0.toList == ([70, 65, 76, 83, 69] : List UInt8))), (by first | rfl | (simp; done) | (simp [*]; done) | (simp; unfold wrap64; omega) | (congr 1; (try rw [Bool.eq_iff_iff]); simp [List.isEmpty_iff]; done)), H', ⟨by first | omega | exact Nat.le_refl _⟩, ⟨bkT BK189.out⟩, ⟨hbT HB.out⟩⟩
  case rest =>
    clear HC2
    try clear c2
    try clear p2
    try clear c4
    try clear c4b0
    try clear c4b1
    obtain ⟨kq, x8_1, rfl, HA, HJ1, BK189, HB⟩ := hcut
    cases kq with
    | zero => (have HA2 := HA.out; clear HA; revert HA2; rw [value_guess.j0_zero]; intro h_; cases h_)
    | succ kj1 =>
      have H := HA.out
      clear HA
      simp only [value_guess.j0] at H
      by_cases c5 : x8_1 = true
      · subst c5
        have H1 : ((value_truth.f (a0.toList == ([84, 82, 85, 69] : List UInt8))).bind fun bt190 => (some (bt190.1, bt190.2.1, bt190.2.2.1, bt190.2.2.2, true))) = some (r1, r2, r3, r4, r5) := by rw [if_pos rfl] at H; exact H
        clear H
        have H := H1
        clear H1
        replace H := Option.bind_eq_some_iff.mp H
        obtain ⟨⟨t190, t191, t192, t193⟩, A60, H⟩ := H
        replace H : (some (t190, t191, t192, t193, true)) = some (r1, r2, r3, r4, r5) := H
        have A6 := Aside0.mk A60
        clear A60
        simp only [Option.some.injEq, Prod.mk.injEq] at H
        obtain ⟨rfl, rfl, rfl, rfl, rfl⟩ := H
        go_wp2_with (first | ((with_reducible refine gate_callee (f := 24) rfl ?_); refine goesT (some 17) Tryz.func24 #[.bool (a0.toList == ([84, 82, 85, 69] : List UInt8))] ?_; (with_reducible refine (value_truth.calls (a0.toList == ([84, 82, 85, 69] : List UInt8)) t190 t191 t192 t193 _ A6.out).mono ?_); rintro e w7 ⟨rfl, hb⟩; refine ⟨_, rfl, ?_⟩; replace BK189 := bbA BK189 hb; replace HB := bsA HB hb; (try clear hb); (try clear hb2); (try clear hk); (try clear hi); have hcz8_0 : w7.cell? ⟨gb189, 0, none⟩ = some (.int .i64 0) := (blk_cell BK189.out 0).trans rfl; have hcz8_1 : w7.cell? ⟨gb189, 1, none⟩ = some (.int .i64 0) := (blk_cell BK189.out 1).trans rfl; have hcz8_2 : w7.cell? ⟨gb189, 2, none⟩ = some (.string (⟨#[]⟩ : ByteArray)) := (blk_cell BK189.out 2).trans rfl; have hcz8_3 : w7.cell? ⟨gb189, 3, none⟩ = some (.bool false) := (blk_cell BK189.out 3).trans rfl; have hfz8_0 := blk_frozen BK189.out 0; have hfz8_1 := blk_frozen BK189.out 1; have hfz8_2 := blk_frozen BK189.out 2; have hfz8_3 := blk_frozen BK189.out 3))
        refine bodyPost_ret (results_ct rfl _ _ gb189 27 #[.int .i64 t190, .int .i64 t191, .string t192, .bool t193] (0, 0) _ rfl (by (with_reducible repeat (first | refine blk_drewN ?_ _ | refine blk_drew ?_ | refine blk_alloc ?_ _)); refine blk_put (cs := #[.int .i64 t190, .int .i64 t191, .string t192, .bool false]) ?_ 3 _ rfl; (with_reducible repeat (first | refine blk_drewN ?_ _ | refine blk_drew ?_ | refine blk_alloc ?_ _)); refine blk_put (cs := #[.int .i64 t190, .int .i64 t191, .string (⟨#[]⟩ : ByteArray), .bool false]) ?_ 2 _ rfl; (with_reducible repeat (first | refine blk_drewN ?_ _ | refine blk_drew ?_ | refine blk_alloc ?_ _)); refine blk_put (cs := #[.int .i64 t190, .int .i64 0, .string (⟨#[]⟩ : ByteArray), .bool false]) ?_ 1 _ rfl; (with_reducible repeat (first | refine blk_drewN ?_ _ | refine blk_drew ?_ | refine blk_alloc ?_ _)); refine blk_put (cs := #[.int .i64 0, .int .i64 0, .string (⟨#[]⟩ : ByteArray), .bool false]) ?_ 0 _ rfl; (with_reducible repeat (first | refine blk_drewN ?_ _ | refine blk_drew ?_ | refine blk_alloc ?_ _)); exact BK189.out) Tryz.underlying27 rfl (by kernel_rfl)) rfl ?_
        exact ⟨by first | rfl | (simp [errW_none, errW_some] <;> rfl) | (simp [*, errW_none, errW_some] <;> rfl), hbT HB.out⟩
      · replace c5 := Bool.eq_false_iff.mpr c5
        subst c5
        have H1 : ((strings_HasPrefix.f a0 (⟨#[34]⟩ : ByteArray)).bind fun t194 => (if t194 = true then ((value_unquoted.f kj1 a0).bind fun bt195 => ((value_text.f bt195.1).bind fun bt197 => (some (bt197.1, bt197.2.1, bt197.2.2.1, bt197.2.2.2, bt195.2)))) else ((strconv_ParseInt.f a0 10 64).bind fun bt201 => ((value_number.f bt201.1).bind fun bt203 => (if bt201.2.isNone = true then (some (bt203.1, bt203.2.1, bt203.2.2.1, bt203.2.2.2, true)) else (some (bt203.1, bt203.2.1, bt203.2.2.1, bt203.2.2.2, false))))))) = some (r1, r2, r3, r4, r5) := by rw [if_neg (show ¬ (false = true) by decide)] at H; exact H
        clear H
        have H := H1
        clear H1
        replace H := Option.bind_eq_some_iff.mp H
        obtain ⟨t194, A90, H⟩ := H
        replace H : (if t194 = true then ((value_unquoted.f kj1 a0).bind fun bt195 => ((value_text.f bt195.1).bind fun bt197 => (some (bt197.1, bt197.2.1, bt197.2.2.1, bt197.2.2.2, bt195.2)))) else ((strconv_ParseInt.f a0 10 64).bind fun bt201 => ((value_number.f bt201.1).bind fun bt203 => (if bt201.2.isNone = true then (some (bt203.1, bt203.2.1, bt203.2.2.1, bt203.2.2.2, true)) else (some (bt203.1, bt203.2.1, bt203.2.2.1, bt203.2.2.2, false)))))) = some (r1, r2, r3, r4, r5) := H
        have A9 := Aside0.mk A90
        clear A90
        by_cases c10 : t194 = true
        · subst c10
          have H1 : ((value_unquoted.f kj1 a0).bind fun bt195 => ((value_text.f bt195.1).bind fun bt197 => (some (bt197.1, bt197.2.1, bt197.2.2.1, bt197.2.2.2, bt195.2)))) = some (r1, r2, r3, r4, r5) := by rw [if_pos rfl] at H; exact H
          clear H
          have H := H1
          clear H1
          replace H := Option.bind_eq_some_iff.mp H
          obtain ⟨⟨t195, t196⟩, A110, H⟩ := H
          replace H : ((value_text.f t195).bind fun bt197 => (some (bt197.1, bt197.2.1, bt197.2.2.1, bt197.2.2.2, t196))) = some (r1, r2, r3, r4, r5) := H
          have A11 := Aside0.mk A110
          clear A110
          replace H := Option.bind_eq_some_iff.mp H
          obtain ⟨⟨t197, t198, t199, t200⟩, A120, H⟩ := H
          replace H : (some (t197, t198, t199, t200, t196)) = some (r1, r2, r3, r4, r5) := H
          have A12 := Aside0.mk A120
          clear A120
          simp only [Option.some.injEq, Prod.mk.injEq] at H
          obtain ⟨rfl, rfl, rfl, rfl, rfl⟩ := H
          go_wp2_with (first | ((with_reducible refine gate_callee (f := 52) rfl ?_); refine goesT (some 20) Tryz.func52 #[.string a0, .string (⟨#[34]⟩ : ByteArray)] ?_; (with_reducible refine (strings_HasPrefix.calls a0 (⟨#[34]⟩ : ByteArray) true _ A9.out).mono ?_); rintro e w' ⟨rfl, ⟨nd, rfl⟩⟩; refine ⟨_, rfl, ?_⟩; (try (rw [drewN_self wc]; generalize hq_ : World.drewN wc _ = wc; have n0_ : Aside0 (wc.heap[gb189]? = some (.cells #[.int .i64 0, .int .i64 0, .string (⟨#[]⟩ : ByteArray), .bool false] 27 (0, 0))) := ⟨by rw [← hq_]; exact (bkT BK189.out)⟩; have n1_ : Aside0 (Below w.heap.size w wc) := ⟨by rw [← hq_]; exact (hbT HB.out)⟩; clear BK189 HB hq_; have BK189 := n0_; have HB := n1_; clear n0_ n1_))) | ((with_reducible refine gate_callee (f := 53) rfl ?_); refine goesT (some 23) Tryz.func53 #[.string a0] ?_; (with_reducible refine (value_unquoted.calls kj1 a0 t195 t196 _ ?side1 A11.out).mono ?_); (case side1 => first | (with_reducible exact HL_LSyn) | exact ⟨LSyn.below HL_LSyn.out (hbT HB.out)⟩); rintro e w13 ⟨rfl, hb⟩; refine ⟨_, rfl, ?_⟩; replace BK189 := bbA BK189 hb; replace HB := bsA HB hb; (try clear hb); (try clear hb2); (try clear hk); (try clear hi)) | ((with_reducible refine gate_callee (f := 27) rfl ?_); refine goesT (some 27) Tryz.func27 #[.string t195] ?_; (with_reducible refine (value_text.calls t195 t197 t198 t199 t200 _ A12.out).mono ?_); rintro e w14 ⟨rfl, hb⟩; refine ⟨_, rfl, ?_⟩; replace BK189 := bbA BK189 hb; replace HB := bsA HB hb; (try clear hb); (try clear hb2); (try clear hk); (try clear hi); have hcz15_0 : w14.cell? ⟨gb189, 0, none⟩ = some (.int .i64 0) := (blk_cell BK189.out 0).trans rfl; have hcz15_1 : w14.cell? ⟨gb189, 1, none⟩ = some (.int .i64 0) := (blk_cell BK189.out 1).trans rfl; have hcz15_2 : w14.cell? ⟨gb189, 2, none⟩ = some (.string (⟨#[]⟩ : ByteArray)) := (blk_cell BK189.out 2).trans rfl; have hcz15_3 : w14.cell? ⟨gb189, 3, none⟩ = some (.bool false) := (blk_cell BK189.out 3).trans rfl; have hfz15_0 := blk_frozen BK189.out 0; have hfz15_1 := blk_frozen BK189.out 1; have hfz15_2 := blk_frozen BK189.out 2; have hfz15_3 := blk_frozen BK189.out 3))
          refine bodyPost_ret (results_ct rfl _ _ gb189 27 #[.int .i64 t197, .int .i64 t198, .string t199, .bool t200] (0, 0) _ rfl (by (with_reducible repeat (first | refine blk_drewN ?_ _ | refine blk_drew ?_ | refine blk_alloc ?_ _)); refine blk_put (cs := #[.int .i64 t197, .int .i64 t198, .string t199, .bool false]) ?_ 3 _ rfl; (with_reducible repeat (first | refine blk_drewN ?_ _ | refine blk_drew ?_ | refine blk_alloc ?_ _)); refine blk_put (cs := #[.int .i64 t197, .int .i64 t198, .string (⟨#[]⟩ : ByteArray), .bool false]) ?_ 2 _ rfl; (with_reducible repeat (first | refine blk_drewN ?_ _ | refine blk_drew ?_ | refine blk_alloc ?_ _)); refine blk_put (cs := #[.int .i64 t197, .int .i64 0, .string (⟨#[]⟩ : ByteArray), .bool false]) ?_ 1 _ rfl; (with_reducible repeat (first | refine blk_drewN ?_ _ | refine blk_drew ?_ | refine blk_alloc ?_ _)); refine blk_put (cs := #[.int .i64 0, .int .i64 0, .string (⟨#[]⟩ : ByteArray), .bool false]) ?_ 0 _ rfl; (with_reducible repeat (first | refine blk_drewN ?_ _ | refine blk_drew ?_ | refine blk_alloc ?_ _)); exact BK189.out) Tryz.underlying27 rfl (by kernel_rfl)) rfl ?_
          exact ⟨by first | rfl | (simp [errW_none, errW_some] <;> rfl) | (simp [*, errW_none, errW_some] <;> rfl), hbT HB.out⟩
        · replace c10 := Bool.eq_false_iff.mpr c10
          subst c10
          have H1 : ((strconv_ParseInt.f a0 10 64).bind fun bt201 => ((value_number.f bt201.1).bind fun bt203 => (if bt201.2.isNone = true then (some (bt203.1, bt203.2.1, bt203.2.2.1, bt203.2.2.2, true)) else (some (bt203.1, bt203.2.1, bt203.2.2.1, bt203.2.2.2, false))))) = some (r1, r2, r3, r4, r5) := by rw [if_neg (show ¬ (false = true) by decide)] at H; exact H
          clear H
          have H := H1
          clear H1
          replace H := Option.bind_eq_some_iff.mp H
          obtain ⟨⟨t201, t202⟩, A160, H⟩ := H
          replace H : ((value_number.f t201).bind fun bt203 => (if t202.isNone = true then (some (bt203.1, bt203.2.1, bt203.2.2.1, bt203.2.2.2, true)) else (some (bt203.1, bt203.2.1, bt203.2.2.1, bt203.2.2.2, false)))) = some (r1, r2, r3, r4, r5) := H
          have A16 := Aside0.mk A160
          clear A160
          replace H := Option.bind_eq_some_iff.mp H
          obtain ⟨⟨t203, t204, t205, t206⟩, A170, H⟩ := H
          replace H : (if t202.isNone = true then (some (t203, t204, t205, t206, true)) else (some (t203, t204, t205, t206, false))) = some (r1, r2, r3, r4, r5) := H
          have A17 := Aside0.mk A170
          clear A170
          rcases t202 with _ | q207
          · have H1 : (some (t203, t204, t205, t206, true)) = some (r1, r2, r3, r4, r5) := by rw [if_pos (show (none : Option Int).isNone = true by rfl)] at H; exact H
            clear H
            have H := H1
            clear H1
            try simp only [errW_none, errW_some]
            simp only [Option.some.injEq, Prod.mk.injEq] at H
            obtain ⟨rfl, rfl, rfl, rfl, rfl⟩ := H
            try go_wp2_with (first | ((with_reducible refine gate_callee (f := 52) rfl ?_); refine goesT (some 20) Tryz.func52 #[.string a0, .string (⟨#[34]⟩ : ByteArray)] ?_; (with_reducible refine (strings_HasPrefix.calls a0 (⟨#[34]⟩ : ByteArray) false _ A9.out).mono ?_); rintro e w' ⟨rfl, ⟨nd, rfl⟩⟩; refine ⟨_, rfl, ?_⟩; (try (rw [drewN_self wc]; generalize hq_ : World.drewN wc _ = wc; have n0_ : Aside0 (wc.heap[gb189]? = some (.cells #[.int .i64 0, .int .i64 0, .string (⟨#[]⟩ : ByteArray), .bool false] 27 (0, 0))) := ⟨by rw [← hq_]; exact (bkT BK189.out)⟩; have n1_ : Aside0 (Below w.heap.size w wc) := ⟨by rw [← hq_]; exact (hbT HB.out)⟩; clear BK189 HB hq_; have BK189 := n0_; have HB := n1_; clear n0_ n1_))) | ((with_reducible refine gate_callee (f := 54) rfl ?_); refine goesT (some 31) Tryz.func54 #[.string a0, .int .i64 10, .int .i64 64] ?_; (with_reducible refine (strconv_ParseInt.calls a0 10 64 t201 none _ ?side1 ?side2 A16.out).mono ?_); (case side1 => first | (with_reducible exact HL_LErr) | exact ⟨LErr.below HL_LErr.out (hbT HB.out)⟩); (case side2 => first | (with_reducible exact HL_LSyn) | exact ⟨LSyn.below HL_LSyn.out (hbT HB.out)⟩); rintro e w18 ⟨ev_, hev_, rfl, hb⟩; refine ⟨_, rfl, ?_⟩; (first | obtain rfl := ErrX_none hev_ | obtain ⟨N_, rfl⟩ := ErrX_some hev_); replace BK189 := bbA BK189 hb; replace HB := bsA HB hb; (try clear hb); (try clear hb2); (try clear hk); (try clear hi)))
            replace BK189 := bdA BK189; replace HB := Aside0.mk (below_drew1 HB.out)
            refine start_ (n := 6) (S := fun w' => True) (ds := []) #[false, false, false, false, false, false] (by kernel_rfl) rfl rfl trivial (fun hHeld => ?_)
            generalize w18.drew = w19 at BK189 HB hHeld ⊢
            refine pure_ (i := 0) (N := some 34) (v := ?_) (a' := ?_) #[true, false, false, false, false, false] rfl rfl (by kernel_rfl) (fun _ _ _ h => h) (Or.inl ⟨by rfl, ?_⟩) ?_ ?_
            rotate_left; (focus (intro w'; go_simp; with_reducible rfl)); rotate_left; (focus (simp only [Act.put, List.setIfInBounds_toArray, List.set_cons_zero, List.set_cons_succ, i64_w, i32_w, IntKind.wrap_u8, IntKind.wrap_u16, IntKind.wrap_u32]; rfl))
            refine pure_ (i := 2) (N := some 36) (v := ?_) (a' := ?_) #[true, false, true, false, false, false] rfl rfl (by kernel_rfl) (fun _ _ _ h => h) (Or.inl ⟨by rfl, ?_⟩) ?_ ?_
            rotate_left; (focus (intro w'; go_simp; with_reducible rfl)); rotate_left; (focus (simp only [Act.put, List.setIfInBounds_toArray, List.set_cons_zero, List.set_cons_succ, i64_w, i32_w, IntKind.wrap_u8, IntKind.wrap_u16, IntKind.wrap_u32]; rfl))
            refine pure_ (i := 3) (N := some 37) (v := ?_) (a' := ?_) #[true, false, true, true, false, false] rfl rfl (by kernel_rfl) (fun _ _ _ h => h) (Or.inl ⟨by rfl, ?_⟩) ?_ ?_
            rotate_left; (focus (intro w'; go_simp; with_reducible rfl)); rotate_left; (focus (simp only [Act.put, List.setIfInBounds_toArray, List.set_cons_zero, List.set_cons_succ, i64_w, i32_w, IntKind.wrap_u8, IntKind.wrap_u16, IntKind.wrap_u32]; rfl))
            refine one_ (i := 1) (N := some 35) #[true, true, true, true, false, false] rfl rfl (by kernel_rfl) (by decide) (fun K hK => ?_)
            refine goes_ Tryz.func23 (by kernel_rfl) rfl #[.int .i64 t201] (by rfl) rfl rfl (by (try simp only [List.map_toArray, List.map_cons, List.map_nil]); first | done | rfl | (simp only [List.length_drop, List.length_take]; rfl)) ?_
            with_reducible refine (value_number.calls t201 t203 t204 t205 t206 _ A17.out).mono ?_
            rintro e w20 ⟨rfl, hb⟩
            refine ⟨_, rfl, ?_⟩
            replace BK189 := bbA BK189 hb; replace HB := bsA HB hb
            (try clear hb); (try clear hb2); (try clear hk); (try clear hi)
            refine hK.out _ _ trivial (fun hHeld => ?_)
            clear hK K
            refine norm_ (a' := ?_) ?_ ?_
            rotate_left
            · show Act.put _ (some 35) _ = _
              simp only [Act.put, List.setIfInBounds_toArray, List.set_cons_zero, List.set_cons_succ, i64_w, i32_w, IntKind.wrap_u8, IntKind.wrap_u16, IntKind.wrap_u32]
              rfl
            refine one_ (i := 4) (N := none) #[true, true, true, true, true, false] rfl rfl (by kernel_rfl) (by decide) (fun K hK => ?_)
            have hs21 : w20.cell? ⟨gb189, 0, none⟩ = some (.int .i64 0) := (blk_cell BK189.out 0).trans rfl
            have hfs21 := blk_frozen BK189.out 0
            have hs22 : w20.cell? ⟨gb189, 1, none⟩ = some (.int .i64 0) := (blk_cell BK189.out 1).trans rfl
            have hfs22 := blk_frozen BK189.out 1
            have hs23 : w20.cell? ⟨gb189, 2, none⟩ = some (.string (⟨#[]⟩ : ByteArray)) := (blk_cell BK189.out 2).trans rfl
            have hfs23 := blk_frozen BK189.out 2
            have hs24 : w20.cell? ⟨gb189, 3, none⟩ = some (.bool false) := (blk_cell BK189.out 3).trans rfl
            have hfs24 := blk_frozen BK189.out 3
            refine skip_ (w1 := ?_) (by rfl) rfl ?_ ?_
            rotate_left
            · go_simp
              rfl
            refine hK.out _ _ trivial (fun hHeld => ?_)
            clear hK K
            refine pure_ (i := 5) (N := some 3) (v := ?_) (a' := ?_) #[true, true, true, true, true, true] rfl rfl (by kernel_rfl) (fun _ _ _ h => h) (Or.inl ⟨by rfl, ?_⟩) ?_ ?_
            rotate_left; (focus (intro w'; go_simp; with_reducible rfl)); rotate_left; (focus (simp only [Act.put, List.setIfInBounds_toArray, List.set_cons_zero, List.set_cons_succ, i64_w, i32_w, IntKind.wrap_u8, IntKind.wrap_u16, IntKind.wrap_u32]; rfl))
            refine done_ (by kernel_rfl) ?_
            try go_wp2
            refine bodyPost_ret (results_ct rfl _ _ gb189 27 #[.int .i64 t203, .int .i64 t204, .string t205, .bool t206] (0, 0) _ rfl (by (with_reducible repeat (first | refine blk_drewN ?_ _ | refine blk_drew ?_ | refine blk_alloc ?_ _)); refine blk_put (cs := #[.int .i64 t203, .int .i64 t204, .string t205, .bool false]) ?_ 3 _ rfl; (with_reducible repeat (first | refine blk_drewN ?_ _ | refine blk_drew ?_ | refine blk_alloc ?_ _)); refine blk_put (cs := #[.int .i64 t203, .int .i64 t204, .string (⟨#[]⟩ : ByteArray), .bool false]) ?_ 2 _ rfl; (with_reducible repeat (first | refine blk_drewN ?_ _ | refine blk_drew ?_ | refine blk_alloc ?_ _)); refine blk_put (cs := #[.int .i64 t203, .int .i64 0, .string (⟨#[]⟩ : ByteArray), .bool false]) ?_ 1 _ rfl; (with_reducible repeat (first | refine blk_drewN ?_ _ | refine blk_drew ?_ | refine blk_alloc ?_ _)); refine blk_put (cs := #[.int .i64 0, .int .i64 0, .string (⟨#[]⟩ : ByteArray), .bool false]) ?_ 0 _ rfl; (with_reducible repeat (first | refine blk_drewN ?_ _ | refine blk_drew ?_ | refine blk_alloc ?_ _)); exact BK189.out) Tryz.underlying27 rfl (by kernel_rfl)) rfl ?_
            exact ⟨by first | rfl | (simp [errW_none, errW_some] <;> rfl) | (simp [*, errW_none, errW_some] <;> rfl), hbT HB.out⟩
          · have H1 : (some (t203, t204, t205, t206, false)) = some (r1, r2, r3, r4, r5) := by rw [if_neg (show ¬ (some q207).isNone = true by simp)] at H; exact H
            clear H
            have H := H1
            clear H1
            try simp only [errW_none, errW_some]
            simp only [Option.some.injEq, Prod.mk.injEq] at H
            obtain ⟨rfl, rfl, rfl, rfl, rfl⟩ := H
            try go_wp2_with (first | ((with_reducible refine gate_callee (f := 52) rfl ?_); refine goesT (some 20) Tryz.func52 #[.string a0, .string (⟨#[34]⟩ : ByteArray)] ?_; (with_reducible refine (strings_HasPrefix.calls a0 (⟨#[34]⟩ : ByteArray) false _ A9.out).mono ?_); rintro e w' ⟨rfl, ⟨nd, rfl⟩⟩; refine ⟨_, rfl, ?_⟩; (try (rw [drewN_self wc]; generalize hq_ : World.drewN wc _ = wc; have n0_ : Aside0 (wc.heap[gb189]? = some (.cells #[.int .i64 0, .int .i64 0, .string (⟨#[]⟩ : ByteArray), .bool false] 27 (0, 0))) := ⟨by rw [← hq_]; exact (bkT BK189.out)⟩; have n1_ : Aside0 (Below w.heap.size w wc) := ⟨by rw [← hq_]; exact (hbT HB.out)⟩; clear BK189 HB hq_; have BK189 := n0_; have HB := n1_; clear n0_ n1_))) | ((with_reducible refine gate_callee (f := 54) rfl ?_); refine goesT (some 31) Tryz.func54 #[.string a0, .int .i64 10, .int .i64 64] ?_; (with_reducible refine (strconv_ParseInt.calls a0 10 64 t201 (some q207) _ ?side1 ?side2 A16.out).mono ?_); (case side1 => first | (with_reducible exact HL_LErr) | exact ⟨LErr.below HL_LErr.out (hbT HB.out)⟩); (case side2 => first | (with_reducible exact HL_LSyn) | exact ⟨LSyn.below HL_LSyn.out (hbT HB.out)⟩); rintro e w25 ⟨ev_, hev_, rfl, hb⟩; refine ⟨_, rfl, ?_⟩; (first | obtain rfl := ErrX_none hev_ | obtain ⟨N_, rfl⟩ := ErrX_some hev_); replace BK189 := bbA BK189 hb; replace HB := bsA HB hb; (try clear hb); (try clear hb2); (try clear hk); (try clear hi)))
            replace BK189 := bdA BK189; replace HB := Aside0.mk (below_drew1 HB.out)
            refine start_ (n := 6) (S := fun w' => True) (ds := []) #[false, false, false, false, false, false] (by kernel_rfl) rfl rfl trivial (fun hHeld => ?_)
            generalize w25.drew = w26 at BK189 HB hHeld ⊢
            refine pure_ (i := 0) (N := some 34) (v := ?_) (a' := ?_) #[true, false, false, false, false, false] rfl rfl (by kernel_rfl) (fun _ _ _ h => h) (Or.inl ⟨by rfl, ?_⟩) ?_ ?_
            rotate_left; (focus (intro w'; go_simp; with_reducible rfl)); rotate_left; (focus (simp only [Act.put, List.setIfInBounds_toArray, List.set_cons_zero, List.set_cons_succ, i64_w, i32_w, IntKind.wrap_u8, IntKind.wrap_u16, IntKind.wrap_u32]; rfl))
            refine pure_ (i := 2) (N := some 36) (v := ?_) (a' := ?_) #[true, false, true, false, false, false] rfl rfl (by kernel_rfl) (fun _ _ _ h => h) (Or.inl ⟨by rfl, ?_⟩) ?_ ?_
            rotate_left; (focus (intro w'; go_simp; with_reducible rfl)); rotate_left; (focus (simp only [Act.put, List.setIfInBounds_toArray, List.set_cons_zero, List.set_cons_succ, i64_w, i32_w, IntKind.wrap_u8, IntKind.wrap_u16, IntKind.wrap_u32]; rfl))
            refine pure_ (i := 3) (N := some 37) (v := ?_) (a' := ?_) #[true, false, true, true, false, false] rfl rfl (by kernel_rfl) (fun _ _ _ h => h) (Or.inl ⟨by rfl, ?_⟩) ?_ ?_
            rotate_left; (focus (intro w'; go_simp; with_reducible rfl)); rotate_left; (focus (simp only [Act.put, List.setIfInBounds_toArray, List.set_cons_zero, List.set_cons_succ, i64_w, i32_w, IntKind.wrap_u8, IntKind.wrap_u16, IntKind.wrap_u32]; rfl))
            refine one_ (i := 1) (N := some 35) #[true, true, true, true, false, false] rfl rfl (by kernel_rfl) (by decide) (fun K hK => ?_)
            refine goes_ Tryz.func23 (by kernel_rfl) rfl #[.int .i64 t201] (by rfl) rfl rfl (by (try simp only [List.map_toArray, List.map_cons, List.map_nil]); first | done | rfl | (simp only [List.length_drop, List.length_take]; rfl)) ?_
            with_reducible refine (value_number.calls t201 t203 t204 t205 t206 _ A17.out).mono ?_
            rintro e w27 ⟨rfl, hb⟩
            refine ⟨_, rfl, ?_⟩
            replace BK189 := bbA BK189 hb; replace HB := bsA HB hb
            (try clear hb); (try clear hb2); (try clear hk); (try clear hi)
            refine hK.out _ _ trivial (fun hHeld => ?_)
            clear hK K
            refine norm_ (a' := ?_) ?_ ?_
            rotate_left
            · show Act.put _ (some 35) _ = _
              simp only [Act.put, List.setIfInBounds_toArray, List.set_cons_zero, List.set_cons_succ, i64_w, i32_w, IntKind.wrap_u8, IntKind.wrap_u16, IntKind.wrap_u32]
              rfl
            refine one_ (i := 4) (N := none) #[true, true, true, true, true, false] rfl rfl (by kernel_rfl) (by decide) (fun K hK => ?_)
            have hs28 : w27.cell? ⟨gb189, 0, none⟩ = some (.int .i64 0) := (blk_cell BK189.out 0).trans rfl
            have hfs28 := blk_frozen BK189.out 0
            have hs29 : w27.cell? ⟨gb189, 1, none⟩ = some (.int .i64 0) := (blk_cell BK189.out 1).trans rfl
            have hfs29 := blk_frozen BK189.out 1
            have hs30 : w27.cell? ⟨gb189, 2, none⟩ = some (.string (⟨#[]⟩ : ByteArray)) := (blk_cell BK189.out 2).trans rfl
            have hfs30 := blk_frozen BK189.out 2
            have hs31 : w27.cell? ⟨gb189, 3, none⟩ = some (.bool false) := (blk_cell BK189.out 3).trans rfl
            have hfs31 := blk_frozen BK189.out 3
            refine skip_ (w1 := ?_) (by rfl) rfl ?_ ?_
            rotate_left
            · go_simp
              rfl
            refine hK.out _ _ trivial (fun hHeld => ?_)
            clear hK K
            refine pure_ (i := 5) (N := some 3) (v := ?_) (a' := ?_) #[true, true, true, true, true, true] rfl rfl (by kernel_rfl) (fun _ _ _ h => h) (Or.inl ⟨by rfl, ?_⟩) ?_ ?_
            rotate_left; (focus (intro w'; go_simp; with_reducible rfl)); rotate_left; (focus (simp only [Act.put, List.setIfInBounds_toArray, List.set_cons_zero, List.set_cons_succ, i64_w, i32_w, IntKind.wrap_u8, IntKind.wrap_u16, IntKind.wrap_u32]; rfl))
            refine done_ (by kernel_rfl) ?_
            try go_wp2
            refine bodyPost_ret (results_ct rfl _ _ gb189 27 #[.int .i64 t203, .int .i64 t204, .string t205, .bool t206] (0, 0) _ rfl (by (with_reducible repeat (first | refine blk_drewN ?_ _ | refine blk_drew ?_ | refine blk_alloc ?_ _)); refine blk_put (cs := #[.int .i64 t203, .int .i64 t204, .string t205, .bool false]) ?_ 3 _ rfl; (with_reducible repeat (first | refine blk_drewN ?_ _ | refine blk_drew ?_ | refine blk_alloc ?_ _)); refine blk_put (cs := #[.int .i64 t203, .int .i64 t204, .string (⟨#[]⟩ : ByteArray), .bool false]) ?_ 2 _ rfl; (with_reducible repeat (first | refine blk_drewN ?_ _ | refine blk_drew ?_ | refine blk_alloc ?_ _)); refine blk_put (cs := #[.int .i64 t203, .int .i64 0, .string (⟨#[]⟩ : ByteArray), .bool false]) ?_ 1 _ rfl; (with_reducible repeat (first | refine blk_drewN ?_ _ | refine blk_drew ?_ | refine blk_alloc ?_ _)); refine blk_put (cs := #[.int .i64 0, .int .i64 0, .string (⟨#[]⟩ : ByteArray), .bool false]) ?_ 0 _ rfl; (with_reducible repeat (first | refine blk_drewN ?_ _ | refine blk_drew ?_ | refine blk_alloc ?_ _)); exact BK189.out) Tryz.underlying27 rfl (by kernel_rfl)) rfl ?_
            exact ⟨by first | rfl | (simp [errW_none, errW_some] <;> rfl) | (simp [*, errW_none, errW_some] <;> rfl), hbT HB.out⟩

/-! ### value_Read: function 8 -/
def value_Read.f (k : Nat) (a0 : ByteArray) : Option (Int × Int × ByteArray × Bool × Int) := (value_guess.f k a0).bind fun bt209 => (if bt209.2.2.2.2 = true then ((value_Show.f bt209.1 bt209.2.1 bt209.2.2.1 bt209.2.2.2.1).bind fun bt215 => (if bt215.2 = 0 then (if bt215.1.toList = a0.toList then (some (bt209.1, bt209.2.1, bt209.2.2.1, bt209.2.2.2.1, 0)) else (some (0, 0, (⟨#[]⟩ : ByteArray), false, 12))) else (some (0, 0, (⟨#[]⟩ : ByteArray), false, 12)))) else (some (0, 0, (⟨#[]⟩ : ByteArray), false, 12)))
set_option maxRecDepth 100000 in
theorem value_Read.mono : ∀ a0 k, LeO (value_Read.f k a0) (value_Read.f (k + 1) a0) := by
  intro a0 k
  unfold value_Read.f
  repeat' first
      | (with_reducible exact value_guess.mono _ _)
      | (with_reducible exact LeO.refl _)
      | (with_reducible exact LeO.none _)
      | (with_reducible refine LeO.ite ?_ ?_)
      | (with_reducible refine LeO.bind ?_ (fun _ => ?_))
      | exact value_guess.mono _ _
      | exact LeO.none _
      | refine LeO.ite ?_ ?_
      | refine LeO.bind ?_ (fun _ => ?_)
set_option maxHeartbeats 8000000 in
set_option maxRecDepth 100000 in
theorem value_Read.calls (k : Nat) (a0 : ByteArray) (r1 : Int) (r2 : Int) (r3 : ByteArray) (r4 : Bool) (r5 : Int) (w : World) (HL_LErr : Aside0 (LErr w)) (HL_LG1 : Aside0 (LG1 w)) (HL_LSyn : Aside0 (LSyn w)) (h : value_Read.f k a0 = some (r1, r2, r3, r4, r5)) :
    Calls Tryz.prog 8 #[.string a0] w fun e w' => e = .returned (.tuple #[.agg #[.int .i64 r1, .int .i64 r2, .string r3, .bool r4], .int .i64 r5]) ∧ Below w.heap.size w w' := by
  have hu27 := Tryz.underlying27
  have HB := Aside0.mk (Below.refl w.heap.size w)
  have H : ((value_guess.f k a0).bind fun bt209 => (if bt209.2.2.2.2 = true then ((value_Show.f bt209.1 bt209.2.1 bt209.2.2.1 bt209.2.2.2.1).bind fun bt215 => (if bt215.2 = 0 then (if bt215.1.toList = a0.toList then (some (bt209.1, bt209.2.1, bt209.2.2.1, bt209.2.2.2.1, 0)) else (some (0, 0, (⟨#[]⟩ : ByteArray), false, 12))) else (some (0, 0, (⟨#[]⟩ : ByteArray), false, 12)))) else (some (0, 0, (⟨#[]⟩ : ByteArray), false, 12)))) = some (r1, r2, r3, r4, r5) := h
  clear h
  replace H := Option.bind_eq_some_iff.mp H
  obtain ⟨⟨t209, t210, t211, t212, t213⟩, A20, H⟩ := H
  replace H : (if t213 = true then ((value_Show.f t209 t210 t211 t212).bind fun bt215 => (if bt215.2 = 0 then (if bt215.1.toList = a0.toList then (some (t209, t210, t211, t212, 0)) else (some (0, 0, (⟨#[]⟩ : ByteArray), false, 12))) else (some (0, 0, (⟨#[]⟩ : ByteArray), false, 12)))) else (some (0, 0, (⟨#[]⟩ : ByteArray), false, 12))) = some (r1, r2, r3, r4, r5) := H
  have A2 := Aside0.mk A20
  clear A20
  by_cases c3 : t213 = true
  · subst c3
    have H1 : ((value_Show.f t209 t210 t211 t212).bind fun bt215 => (if bt215.2 = 0 then (if bt215.1.toList = a0.toList then (some (t209, t210, t211, t212, 0)) else (some (0, 0, (⟨#[]⟩ : ByteArray), false, 12))) else (some (0, 0, (⟨#[]⟩ : ByteArray), false, 12)))) = some (r1, r2, r3, r4, r5) := by rw [if_pos rfl] at H; exact H
    clear H
    have H := H1
    clear H1
    replace H := Option.bind_eq_some_iff.mp H
    obtain ⟨⟨t215, t216⟩, A40, H⟩ := H
    replace H : (if t216 = 0 then (if t215.toList = a0.toList then (some (t209, t210, t211, t212, 0)) else (some (0, 0, (⟨#[]⟩ : ByteArray), false, 12))) else (some (0, 0, (⟨#[]⟩ : ByteArray), false, 12))) = some (r1, r2, r3, r4, r5) := H
    have A4 := Aside0.mk A40
    clear A40
    by_cases c5 : t216 = 0
    · rw [if_pos c5] at H
      have c5b0 : (t216 == 0) = true := beq_iff_eq.mpr c5
      have c5b1 : (t216 != 0) = false := bne_eq_false_iff_eq.mpr c5
      clear c5
      by_cases c6 : t215.toList = a0.toList
      · rw [if_pos c6] at H
        have c6b0 : (t215.toList == a0.toList) = true := beq_iff_eq.mpr c6
        have c6b1 : (t215.toList != a0.toList) = false := bne_eq_false_iff_eq.mpr c6
        clear c6
        simp only [Option.some.injEq, Prod.mk.injEq] at H
        obtain ⟨rfl, rfl, rfl, rfl, rfl⟩ := H
        go_enter Tryz.func8, Tryz.ntmps8
        go_wp2_with (first | ((with_reducible refine gate_dst (N := 2) rfl ?_); refine box_event ?hg (N := 2) ?hd (cs := #[.int .i64 0, .int .i64 0, .string (⟨#[]⟩ : ByteArray), .bool false]) (t := 27) ?hr ?_; (case hd => rfl); (case hg => rfl); (case hr => first | (go_simp; done) | (go_simp; rfl)); intro gb208 hg w7 hbox hb; have BK208 := Aside0.mk hbox; have GW208 := geA hg HB; have GE208 := geA hg HB; replace HB := bsA HB hb; clear hb hbox hg) | ((with_reducible refine gate_callee (f := 26) rfl ?_); refine goesT (some 10) Tryz.func26 #[.string a0] ?_; (with_reducible refine (value_guess.calls k a0 t209 t210 t211 t212 true _ ?side1 ?side2 A2.out).mono ?_); (case side1 => first | (with_reducible exact HL_LErr) | exact ⟨LErr.below HL_LErr.out (hbT HB.out)⟩); (case side2 => first | (with_reducible exact HL_LSyn) | exact ⟨LSyn.below HL_LSyn.out (hbT HB.out)⟩); rintro e w8 ⟨rfl, hb⟩; refine ⟨_, rfl, ?_⟩; replace BK208 := bbA BK208 hb; replace HB := bsA HB hb; (try clear hb); (try clear hb2); (try clear hk); (try clear hi)) | ((with_reducible refine gate_dst (N := 4) rfl ?_); refine box_event ?hg (N := 4) ?hd (cs := #[.int .i64 0, .int .i64 0, .string (⟨#[]⟩ : ByteArray), .bool false]) (t := 27) ?hr ?_; (case hd => rfl); (case hg => rfl); (case hr => first | (go_simp; done) | (go_simp; rfl)); intro gb214 hg w9 hbox hb; have BK214 := Aside0.mk hbox; have GW214 := geA hg HB; have GE214 := geA hg HB; have NB208_214 := neA hg BK208; have NB214_208 := neB hg BK208; replace BK208 := bbA BK208 hb; replace HB := bsA HB hb; clear hb hbox hg; have hnb10 := NB214_208.out; have hnc10 := NB208_214.out; have hcz11_0 : w9.cell? ⟨gb214, 0, none⟩ = some (.int .i64 0) := (blk_cell BK214.out 0).trans rfl; have hcz11_1 : w9.cell? ⟨gb214, 1, none⟩ = some (.int .i64 0) := (blk_cell BK214.out 1).trans rfl; have hcz11_2 : w9.cell? ⟨gb214, 2, none⟩ = some (.string (⟨#[]⟩ : ByteArray)) := (blk_cell BK214.out 2).trans rfl; have hcz11_3 : w9.cell? ⟨gb214, 3, none⟩ = some (.bool false) := (blk_cell BK214.out 3).trans rfl; have hfz11_0 := blk_frozen BK214.out 0; have hfz11_1 := blk_frozen BK214.out 1; have hfz11_2 := blk_frozen BK214.out 2; have hfz11_3 := blk_frozen BK214.out 3) | ((with_reducible refine gate_callee (f := 6) rfl ?_); refine goesT (some 18) Tryz.func6 #[.agg #[.int .i64 t209, .int .i64 t210, .string t211, .bool t212]] ?_; (with_reducible refine (value_Show.calls t209 t210 t211 t212 t215 t216 _ ?side1 A4.out).mono ?_); (case side1 => first | (with_reducible exact HL_LG1) | exact ⟨LG1.below HL_LG1.out (hbT HB.out)⟩); rintro e w12 ⟨rfl, hb⟩; refine ⟨_, rfl, ?_⟩; replace BK208 := Aside0.mk (blk_below (g := gb208) (o := .cells #[.int .i64 0, .int .i64 0, .string (⟨#[]⟩ : ByteArray), .bool false] 27 (0, 0)) (by (with_reducible repeat (first | refine blk_drewN ?_ _ | refine blk_drew ?_ | refine blk_alloc ?_ _)); refine blk_far ?_ NB208_214.out _; (with_reducible repeat (first | refine blk_drewN ?_ _ | refine blk_drew ?_ | refine blk_alloc ?_ _)); refine blk_far ?_ NB208_214.out _; (with_reducible repeat (first | refine blk_drewN ?_ _ | refine blk_drew ?_ | refine blk_alloc ?_ _)); refine blk_far ?_ NB208_214.out _; (with_reducible repeat (first | refine blk_drewN ?_ _ | refine blk_drew ?_ | refine blk_alloc ?_ _)); refine blk_far ?_ NB208_214.out _; (with_reducible repeat (first | refine blk_drewN ?_ _ | refine blk_drew ?_ | refine blk_alloc ?_ _)); exact BK208.out) hb); replace BK214 := Aside0.mk (blk_below (g := gb214) (o := .cells #[.int .i64 t209, .int .i64 t210, .string t211, .bool t212] 27 (0, 0)) (by (with_reducible repeat (first | refine blk_drewN ?_ _ | refine blk_drew ?_ | refine blk_alloc ?_ _)); refine blk_put (cs := #[.int .i64 t209, .int .i64 t210, .string t211, .bool false]) ?_ 3 _ rfl; (with_reducible repeat (first | refine blk_drewN ?_ _ | refine blk_drew ?_ | refine blk_alloc ?_ _)); refine blk_put (cs := #[.int .i64 t209, .int .i64 t210, .string (⟨#[]⟩ : ByteArray), .bool false]) ?_ 2 _ rfl; (with_reducible repeat (first | refine blk_drewN ?_ _ | refine blk_drew ?_ | refine blk_alloc ?_ _)); refine blk_put (cs := #[.int .i64 t209, .int .i64 0, .string (⟨#[]⟩ : ByteArray), .bool false]) ?_ 1 _ rfl; (with_reducible repeat (first | refine blk_drewN ?_ _ | refine blk_drew ?_ | refine blk_alloc ?_ _)); refine blk_put (cs := #[.int .i64 0, .int .i64 0, .string (⟨#[]⟩ : ByteArray), .bool false]) ?_ 0 _ rfl; (with_reducible repeat (first | refine blk_drewN ?_ _ | refine blk_drew ?_ | refine blk_alloc ?_ _)); exact BK214.out) hb); replace HB := bsA HB hb; (try clear hb); (try clear hb2); (try clear hk); (try clear hi); have hcz13_0 : w12.cell? ⟨gb214, 0, none⟩ = some (.int .i64 t209) := (blk_cell BK214.out 0).trans rfl; have hcz13_1 : w12.cell? ⟨gb214, 1, none⟩ = some (.int .i64 t210) := (blk_cell BK214.out 1).trans rfl; have hcz13_2 : w12.cell? ⟨gb214, 2, none⟩ = some (.string t211) := (blk_cell BK214.out 2).trans rfl; have hcz13_3 : w12.cell? ⟨gb214, 3, none⟩ = some (.bool t212) := (blk_cell BK214.out 3).trans rfl; have hfz13_0 := blk_frozen BK214.out 0; have hfz13_1 := blk_frozen BK214.out 1; have hfz13_2 := blk_frozen BK214.out 2; have hfz13_3 := blk_frozen BK214.out 3; have hcz14_0 : w12.cell? ⟨gb208, 0, none⟩ = some (.int .i64 0) := (blk_cell BK208.out 0).trans rfl; have hcz14_1 : w12.cell? ⟨gb208, 1, none⟩ = some (.int .i64 0) := (blk_cell BK208.out 1).trans rfl; have hcz14_2 : w12.cell? ⟨gb208, 2, none⟩ = some (.string (⟨#[]⟩ : ByteArray)) := (blk_cell BK208.out 2).trans rfl; have hcz14_3 : w12.cell? ⟨gb208, 3, none⟩ = some (.bool false) := (blk_cell BK208.out 3).trans rfl; have hfz14_0 := blk_frozen BK208.out 0; have hfz14_1 := blk_frozen BK208.out 1; have hfz14_2 := blk_frozen BK208.out 2; have hfz14_3 := blk_frozen BK208.out 3))
        refine bodyPost_ret (results_ct rfl _ _ gb208 27 #[.int .i64 t209, .int .i64 t210, .string t211, .bool t212] (0, 0) _ rfl (by (with_reducible repeat (first | refine blk_drewN ?_ _ | refine blk_drew ?_ | refine blk_alloc ?_ _)); refine blk_put (cs := #[.int .i64 t209, .int .i64 t210, .string t211, .bool false]) ?_ 3 _ rfl; (with_reducible repeat (first | refine blk_drewN ?_ _ | refine blk_drew ?_ | refine blk_alloc ?_ _)); refine blk_put (cs := #[.int .i64 t209, .int .i64 t210, .string (⟨#[]⟩ : ByteArray), .bool false]) ?_ 2 _ rfl; (with_reducible repeat (first | refine blk_drewN ?_ _ | refine blk_drew ?_ | refine blk_alloc ?_ _)); refine blk_put (cs := #[.int .i64 t209, .int .i64 0, .string (⟨#[]⟩ : ByteArray), .bool false]) ?_ 1 _ rfl; (with_reducible repeat (first | refine blk_drewN ?_ _ | refine blk_drew ?_ | refine blk_alloc ?_ _)); refine blk_put (cs := #[.int .i64 0, .int .i64 0, .string (⟨#[]⟩ : ByteArray), .bool false]) ?_ 0 _ rfl; (with_reducible repeat (first | refine blk_drewN ?_ _ | refine blk_drew ?_ | refine blk_alloc ?_ _)); exact BK208.out) Tryz.underlying27 rfl (by kernel_rfl)) rfl ?_
        exact ⟨by first | rfl | (simp [errW_none, errW_some] <;> rfl) | (simp [*, errW_none, errW_some] <;> rfl), hbT HB.out⟩
      · rw [if_neg c6] at H
        have c6b0 : (t215.toList == a0.toList) = false := beq_eq_false_iff_ne.mpr c6
        have c6b1 : (t215.toList != a0.toList) = true := bne_iff_ne.mpr c6
        simp only [Option.some.injEq, Prod.mk.injEq] at H
        obtain ⟨rfl, rfl, rfl, rfl, rfl⟩ := H
        go_enter Tryz.func8, Tryz.ntmps8
        go_wp2_with (first | ((with_reducible refine gate_dst (N := 2) rfl ?_); refine box_event ?hg (N := 2) ?hd (cs := #[.int .i64 0, .int .i64 0, .string (⟨#[]⟩ : ByteArray), .bool false]) (t := 27) ?hr ?_; (case hd => rfl); (case hg => rfl); (case hr => first | (go_simp; done) | (go_simp; rfl)); intro gb208 hg w15 hbox hb; have BK208 := Aside0.mk hbox; have GW208 := geA hg HB; have GE208 := geA hg HB; replace HB := bsA HB hb; clear hb hbox hg) | ((with_reducible refine gate_callee (f := 26) rfl ?_); refine goesT (some 10) Tryz.func26 #[.string a0] ?_; (with_reducible refine (value_guess.calls k a0 t209 t210 t211 t212 true _ ?side1 ?side2 A2.out).mono ?_); (case side1 => first | (with_reducible exact HL_LErr) | exact ⟨LErr.below HL_LErr.out (hbT HB.out)⟩); (case side2 => first | (with_reducible exact HL_LSyn) | exact ⟨LSyn.below HL_LSyn.out (hbT HB.out)⟩); rintro e w16 ⟨rfl, hb⟩; refine ⟨_, rfl, ?_⟩; replace BK208 := bbA BK208 hb; replace HB := bsA HB hb; (try clear hb); (try clear hb2); (try clear hk); (try clear hi)) | ((with_reducible refine gate_dst (N := 4) rfl ?_); refine box_event ?hg (N := 4) ?hd (cs := #[.int .i64 0, .int .i64 0, .string (⟨#[]⟩ : ByteArray), .bool false]) (t := 27) ?hr ?_; (case hd => rfl); (case hg => rfl); (case hr => first | (go_simp; done) | (go_simp; rfl)); intro gb214 hg w17 hbox hb; have BK214 := Aside0.mk hbox; have GW214 := geA hg HB; have GE214 := geA hg HB; have NB208_214 := neA hg BK208; have NB214_208 := neB hg BK208; replace BK208 := bbA BK208 hb; replace HB := bsA HB hb; clear hb hbox hg; have hnb18 := NB214_208.out; have hnc18 := NB208_214.out; have hcz19_0 : w17.cell? ⟨gb214, 0, none⟩ = some (.int .i64 0) := (blk_cell BK214.out 0).trans rfl; have hcz19_1 : w17.cell? ⟨gb214, 1, none⟩ = some (.int .i64 0) := (blk_cell BK214.out 1).trans rfl; have hcz19_2 : w17.cell? ⟨gb214, 2, none⟩ = some (.string (⟨#[]⟩ : ByteArray)) := (blk_cell BK214.out 2).trans rfl; have hcz19_3 : w17.cell? ⟨gb214, 3, none⟩ = some (.bool false) := (blk_cell BK214.out 3).trans rfl; have hfz19_0 := blk_frozen BK214.out 0; have hfz19_1 := blk_frozen BK214.out 1; have hfz19_2 := blk_frozen BK214.out 2; have hfz19_3 := blk_frozen BK214.out 3) | ((with_reducible refine gate_callee (f := 6) rfl ?_); refine goesT (some 18) Tryz.func6 #[.agg #[.int .i64 t209, .int .i64 t210, .string t211, .bool t212]] ?_; (with_reducible refine (value_Show.calls t209 t210 t211 t212 t215 t216 _ ?side1 A4.out).mono ?_); (case side1 => first | (with_reducible exact HL_LG1) | exact ⟨LG1.below HL_LG1.out (hbT HB.out)⟩); rintro e w20 ⟨rfl, hb⟩; refine ⟨_, rfl, ?_⟩; replace BK208 := Aside0.mk (blk_below (g := gb208) (o := .cells #[.int .i64 0, .int .i64 0, .string (⟨#[]⟩ : ByteArray), .bool false] 27 (0, 0)) (by (with_reducible repeat (first | refine blk_drewN ?_ _ | refine blk_drew ?_ | refine blk_alloc ?_ _)); refine blk_far ?_ NB208_214.out _; (with_reducible repeat (first | refine blk_drewN ?_ _ | refine blk_drew ?_ | refine blk_alloc ?_ _)); refine blk_far ?_ NB208_214.out _; (with_reducible repeat (first | refine blk_drewN ?_ _ | refine blk_drew ?_ | refine blk_alloc ?_ _)); refine blk_far ?_ NB208_214.out _; (with_reducible repeat (first | refine blk_drewN ?_ _ | refine blk_drew ?_ | refine blk_alloc ?_ _)); refine blk_far ?_ NB208_214.out _; (with_reducible repeat (first | refine blk_drewN ?_ _ | refine blk_drew ?_ | refine blk_alloc ?_ _)); exact BK208.out) hb); replace BK214 := Aside0.mk (blk_below (g := gb214) (o := .cells #[.int .i64 t209, .int .i64 t210, .string t211, .bool t212] 27 (0, 0)) (by (with_reducible repeat (first | refine blk_drewN ?_ _ | refine blk_drew ?_ | refine blk_alloc ?_ _)); refine blk_put (cs := #[.int .i64 t209, .int .i64 t210, .string t211, .bool false]) ?_ 3 _ rfl; (with_reducible repeat (first | refine blk_drewN ?_ _ | refine blk_drew ?_ | refine blk_alloc ?_ _)); refine blk_put (cs := #[.int .i64 t209, .int .i64 t210, .string (⟨#[]⟩ : ByteArray), .bool false]) ?_ 2 _ rfl; (with_reducible repeat (first | refine blk_drewN ?_ _ | refine blk_drew ?_ | refine blk_alloc ?_ _)); refine blk_put (cs := #[.int .i64 t209, .int .i64 0, .string (⟨#[]⟩ : ByteArray), .bool false]) ?_ 1 _ rfl; (with_reducible repeat (first | refine blk_drewN ?_ _ | refine blk_drew ?_ | refine blk_alloc ?_ _)); refine blk_put (cs := #[.int .i64 0, .int .i64 0, .string (⟨#[]⟩ : ByteArray), .bool false]) ?_ 0 _ rfl; (with_reducible repeat (first | refine blk_drewN ?_ _ | refine blk_drew ?_ | refine blk_alloc ?_ _)); exact BK214.out) hb); replace HB := bsA HB hb; (try clear hb); (try clear hb2); (try clear hk); (try clear hi); have hcz21_0 : w20.cell? ⟨gb208, 0, none⟩ = some (.int .i64 0) := (blk_cell BK208.out 0).trans rfl; have hcz21_1 : w20.cell? ⟨gb208, 1, none⟩ = some (.int .i64 0) := (blk_cell BK208.out 1).trans rfl; have hcz21_2 : w20.cell? ⟨gb208, 2, none⟩ = some (.string (⟨#[]⟩ : ByteArray)) := (blk_cell BK208.out 2).trans rfl; have hcz21_3 : w20.cell? ⟨gb208, 3, none⟩ = some (.bool false) := (blk_cell BK208.out 3).trans rfl; have hfz21_0 := blk_frozen BK208.out 0; have hfz21_1 := blk_frozen BK208.out 1; have hfz21_2 := blk_frozen BK208.out 2; have hfz21_3 := blk_frozen BK208.out 3))
        refine bodyPost_ret (results_ct rfl _ _ gb208 27 #[.int .i64 0, .int .i64 0, .string (⟨#[]⟩ : ByteArray), .bool false] (0, 0) _ rfl (by (with_reducible repeat (first | refine blk_drewN ?_ _ | refine blk_drew ?_ | refine blk_alloc ?_ _)); refine blk_put (cs := #[.int .i64 0, .int .i64 0, .string (⟨#[]⟩ : ByteArray), .bool false]) ?_ 3 _ rfl; (with_reducible repeat (first | refine blk_drewN ?_ _ | refine blk_drew ?_ | refine blk_alloc ?_ _)); refine blk_put (cs := #[.int .i64 0, .int .i64 0, .string (⟨#[]⟩ : ByteArray), .bool false]) ?_ 2 _ rfl; (with_reducible repeat (first | refine blk_drewN ?_ _ | refine blk_drew ?_ | refine blk_alloc ?_ _)); refine blk_put (cs := #[.int .i64 0, .int .i64 0, .string (⟨#[]⟩ : ByteArray), .bool false]) ?_ 1 _ rfl; (with_reducible repeat (first | refine blk_drewN ?_ _ | refine blk_drew ?_ | refine blk_alloc ?_ _)); refine blk_put (cs := #[.int .i64 0, .int .i64 0, .string (⟨#[]⟩ : ByteArray), .bool false]) ?_ 0 _ rfl; (with_reducible repeat (first | refine blk_drewN ?_ _ | refine blk_drew ?_ | refine blk_alloc ?_ _)); exact BK208.out) Tryz.underlying27 rfl (by kernel_rfl)) rfl ?_
        exact ⟨by first | rfl | (simp [errW_none, errW_some] <;> rfl) | (simp [*, errW_none, errW_some] <;> rfl), hbT HB.out⟩
    · rw [if_neg c5] at H
      have c5b0 : (t216 == 0) = false := beq_eq_false_iff_ne.mpr c5
      have c5b1 : (t216 != 0) = true := bne_iff_ne.mpr c5
      simp only [Option.some.injEq, Prod.mk.injEq] at H
      obtain ⟨rfl, rfl, rfl, rfl, rfl⟩ := H
      go_enter Tryz.func8, Tryz.ntmps8
      go_wp2_with (first | ((with_reducible refine gate_dst (N := 2) rfl ?_); refine box_event ?hg (N := 2) ?hd (cs := #[.int .i64 0, .int .i64 0, .string (⟨#[]⟩ : ByteArray), .bool false]) (t := 27) ?hr ?_; (case hd => rfl); (case hg => rfl); (case hr => first | (go_simp; done) | (go_simp; rfl)); intro gb208 hg w22 hbox hb; have BK208 := Aside0.mk hbox; have GW208 := geA hg HB; have GE208 := geA hg HB; replace HB := bsA HB hb; clear hb hbox hg) | ((with_reducible refine gate_callee (f := 26) rfl ?_); refine goesT (some 10) Tryz.func26 #[.string a0] ?_; (with_reducible refine (value_guess.calls k a0 t209 t210 t211 t212 true _ ?side1 ?side2 A2.out).mono ?_); (case side1 => first | (with_reducible exact HL_LErr) | exact ⟨LErr.below HL_LErr.out (hbT HB.out)⟩); (case side2 => first | (with_reducible exact HL_LSyn) | exact ⟨LSyn.below HL_LSyn.out (hbT HB.out)⟩); rintro e w23 ⟨rfl, hb⟩; refine ⟨_, rfl, ?_⟩; replace BK208 := bbA BK208 hb; replace HB := bsA HB hb; (try clear hb); (try clear hb2); (try clear hk); (try clear hi)) | ((with_reducible refine gate_dst (N := 4) rfl ?_); refine box_event ?hg (N := 4) ?hd (cs := #[.int .i64 0, .int .i64 0, .string (⟨#[]⟩ : ByteArray), .bool false]) (t := 27) ?hr ?_; (case hd => rfl); (case hg => rfl); (case hr => first | (go_simp; done) | (go_simp; rfl)); intro gb214 hg w24 hbox hb; have BK214 := Aside0.mk hbox; have GW214 := geA hg HB; have GE214 := geA hg HB; have NB208_214 := neA hg BK208; have NB214_208 := neB hg BK208; replace BK208 := bbA BK208 hb; replace HB := bsA HB hb; clear hb hbox hg; have hnb25 := NB214_208.out; have hnc25 := NB208_214.out; have hcz26_0 : w24.cell? ⟨gb214, 0, none⟩ = some (.int .i64 0) := (blk_cell BK214.out 0).trans rfl; have hcz26_1 : w24.cell? ⟨gb214, 1, none⟩ = some (.int .i64 0) := (blk_cell BK214.out 1).trans rfl; have hcz26_2 : w24.cell? ⟨gb214, 2, none⟩ = some (.string (⟨#[]⟩ : ByteArray)) := (blk_cell BK214.out 2).trans rfl; have hcz26_3 : w24.cell? ⟨gb214, 3, none⟩ = some (.bool false) := (blk_cell BK214.out 3).trans rfl; have hfz26_0 := blk_frozen BK214.out 0; have hfz26_1 := blk_frozen BK214.out 1; have hfz26_2 := blk_frozen BK214.out 2; have hfz26_3 := blk_frozen BK214.out 3) | ((with_reducible refine gate_callee (f := 6) rfl ?_); refine goesT (some 18) Tryz.func6 #[.agg #[.int .i64 t209, .int .i64 t210, .string t211, .bool t212]] ?_; (with_reducible refine (value_Show.calls t209 t210 t211 t212 t215 t216 _ ?side1 A4.out).mono ?_); (case side1 => first | (with_reducible exact HL_LG1) | exact ⟨LG1.below HL_LG1.out (hbT HB.out)⟩); rintro e w27 ⟨rfl, hb⟩; refine ⟨_, rfl, ?_⟩; replace BK208 := Aside0.mk (blk_below (g := gb208) (o := .cells #[.int .i64 0, .int .i64 0, .string (⟨#[]⟩ : ByteArray), .bool false] 27 (0, 0)) (by (with_reducible repeat (first | refine blk_drewN ?_ _ | refine blk_drew ?_ | refine blk_alloc ?_ _)); refine blk_far ?_ NB208_214.out _; (with_reducible repeat (first | refine blk_drewN ?_ _ | refine blk_drew ?_ | refine blk_alloc ?_ _)); refine blk_far ?_ NB208_214.out _; (with_reducible repeat (first | refine blk_drewN ?_ _ | refine blk_drew ?_ | refine blk_alloc ?_ _)); refine blk_far ?_ NB208_214.out _; (with_reducible repeat (first | refine blk_drewN ?_ _ | refine blk_drew ?_ | refine blk_alloc ?_ _)); refine blk_far ?_ NB208_214.out _; (with_reducible repeat (first | refine blk_drewN ?_ _ | refine blk_drew ?_ | refine blk_alloc ?_ _)); exact BK208.out) hb); replace BK214 := Aside0.mk (blk_below (g := gb214) (o := .cells #[.int .i64 t209, .int .i64 t210, .string t211, .bool t212] 27 (0, 0)) (by (with_reducible repeat (first | refine blk_drewN ?_ _ | refine blk_drew ?_ | refine blk_alloc ?_ _)); refine blk_put (cs := #[.int .i64 t209, .int .i64 t210, .string t211, .bool false]) ?_ 3 _ rfl; (with_reducible repeat (first | refine blk_drewN ?_ _ | refine blk_drew ?_ | refine blk_alloc ?_ _)); refine blk_put (cs := #[.int .i64 t209, .int .i64 t210, .string (⟨#[]⟩ : ByteArray), .bool false]) ?_ 2 _ rfl; (with_reducible repeat (first | refine blk_drewN ?_ _ | refine blk_drew ?_ | refine blk_alloc ?_ _)); refine blk_put (cs := #[.int .i64 t209, .int .i64 0, .string (⟨#[]⟩ : ByteArray), .bool false]) ?_ 1 _ rfl; (with_reducible repeat (first | refine blk_drewN ?_ _ | refine blk_drew ?_ | refine blk_alloc ?_ _)); refine blk_put (cs := #[.int .i64 0, .int .i64 0, .string (⟨#[]⟩ : ByteArray), .bool false]) ?_ 0 _ rfl; (with_reducible repeat (first | refine blk_drewN ?_ _ | refine blk_drew ?_ | refine blk_alloc ?_ _)); exact BK214.out) hb); replace HB := bsA HB hb; (try clear hb); (try clear hb2); (try clear hk); (try clear hi); have hcz28_0 : w27.cell? ⟨gb208, 0, none⟩ = some (.int .i64 0) := (blk_cell BK208.out 0).trans rfl; have hcz28_1 : w27.cell? ⟨gb208, 1, none⟩ = some (.int .i64 0) := (blk_cell BK208.out 1).trans rfl; have hcz28_2 : w27.cell? ⟨gb208, 2, none⟩ = some (.string (⟨#[]⟩ : ByteArray)) := (blk_cell BK208.out 2).trans rfl; have hcz28_3 : w27.cell? ⟨gb208, 3, none⟩ = some (.bool false) := (blk_cell BK208.out 3).trans rfl; have hfz28_0 := blk_frozen BK208.out 0; have hfz28_1 := blk_frozen BK208.out 1; have hfz28_2 := blk_frozen BK208.out 2; have hfz28_3 := blk_frozen BK208.out 3))
      refine bodyPost_ret (results_ct rfl _ _ gb208 27 #[.int .i64 0, .int .i64 0, .string (⟨#[]⟩ : ByteArray), .bool false] (0, 0) _ rfl (by (with_reducible repeat (first | refine blk_drewN ?_ _ | refine blk_drew ?_ | refine blk_alloc ?_ _)); refine blk_put (cs := #[.int .i64 0, .int .i64 0, .string (⟨#[]⟩ : ByteArray), .bool false]) ?_ 3 _ rfl; (with_reducible repeat (first | refine blk_drewN ?_ _ | refine blk_drew ?_ | refine blk_alloc ?_ _)); refine blk_put (cs := #[.int .i64 0, .int .i64 0, .string (⟨#[]⟩ : ByteArray), .bool false]) ?_ 2 _ rfl; (with_reducible repeat (first | refine blk_drewN ?_ _ | refine blk_drew ?_ | refine blk_alloc ?_ _)); refine blk_put (cs := #[.int .i64 0, .int .i64 0, .string (⟨#[]⟩ : ByteArray), .bool false]) ?_ 1 _ rfl; (with_reducible repeat (first | refine blk_drewN ?_ _ | refine blk_drew ?_ | refine blk_alloc ?_ _)); refine blk_put (cs := #[.int .i64 0, .int .i64 0, .string (⟨#[]⟩ : ByteArray), .bool false]) ?_ 0 _ rfl; (with_reducible repeat (first | refine blk_drewN ?_ _ | refine blk_drew ?_ | refine blk_alloc ?_ _)); exact BK208.out) Tryz.underlying27 rfl (by kernel_rfl)) rfl ?_
      exact ⟨by first | rfl | (simp [errW_none, errW_some] <;> rfl) | (simp [*, errW_none, errW_some] <;> rfl), hbT HB.out⟩
  · replace c3 := Bool.eq_false_iff.mpr c3
    subst c3
    have H1 : (some (0, 0, (⟨#[]⟩ : ByteArray), false, 12)) = some (r1, r2, r3, r4, r5) := by rw [if_neg (show ¬ (false = true) by decide)] at H; exact H
    clear H
    have H := H1
    clear H1
    simp only [Option.some.injEq, Prod.mk.injEq] at H
    obtain ⟨rfl, rfl, rfl, rfl, rfl⟩ := H
    go_enter Tryz.func8, Tryz.ntmps8
    go_wp2_with (first | ((with_reducible refine gate_dst (N := 2) rfl ?_); refine box_event ?hg (N := 2) ?hd (cs := #[.int .i64 0, .int .i64 0, .string (⟨#[]⟩ : ByteArray), .bool false]) (t := 27) ?hr ?_; (case hd => rfl); (case hg => rfl); (case hr => first | (go_simp; done) | (go_simp; rfl)); intro gb208 hg w29 hbox hb; have BK208 := Aside0.mk hbox; have GW208 := geA hg HB; have GE208 := geA hg HB; replace HB := bsA HB hb; clear hb hbox hg) | ((with_reducible refine gate_callee (f := 26) rfl ?_); refine goesT (some 10) Tryz.func26 #[.string a0] ?_; (with_reducible refine (value_guess.calls k a0 t209 t210 t211 t212 false _ ?side1 ?side2 A2.out).mono ?_); (case side1 => first | (with_reducible exact HL_LErr) | exact ⟨LErr.below HL_LErr.out (hbT HB.out)⟩); (case side2 => first | (with_reducible exact HL_LSyn) | exact ⟨LSyn.below HL_LSyn.out (hbT HB.out)⟩); rintro e w30 ⟨rfl, hb⟩; refine ⟨_, rfl, ?_⟩; replace BK208 := bbA BK208 hb; replace HB := bsA HB hb; (try clear hb); (try clear hb2); (try clear hk); (try clear hi)) | ((with_reducible refine gate_dst (N := 4) rfl ?_); refine box_event ?hg (N := 4) ?hd (cs := #[.int .i64 0, .int .i64 0, .string (⟨#[]⟩ : ByteArray), .bool false]) (t := 27) ?hr ?_; (case hd => rfl); (case hg => rfl); (case hr => first | (go_simp; done) | (go_simp; rfl)); intro gb214 hg w31 hbox hb; have BK214 := Aside0.mk hbox; have GW214 := geA hg HB; have GE214 := geA hg HB; have NB208_214 := neA hg BK208; have NB214_208 := neB hg BK208; replace BK208 := bbA BK208 hb; replace HB := bsA HB hb; clear hb hbox hg; have hnb32 := NB214_208.out; have hnc32 := NB208_214.out; have hcz33_0 : w31.cell? ⟨gb214, 0, none⟩ = some (.int .i64 0) := (blk_cell BK214.out 0).trans rfl; have hcz33_1 : w31.cell? ⟨gb214, 1, none⟩ = some (.int .i64 0) := (blk_cell BK214.out 1).trans rfl; have hcz33_2 : w31.cell? ⟨gb214, 2, none⟩ = some (.string (⟨#[]⟩ : ByteArray)) := (blk_cell BK214.out 2).trans rfl; have hcz33_3 : w31.cell? ⟨gb214, 3, none⟩ = some (.bool false) := (blk_cell BK214.out 3).trans rfl; have hfz33_0 := blk_frozen BK214.out 0; have hfz33_1 := blk_frozen BK214.out 1; have hfz33_2 := blk_frozen BK214.out 2; have hfz33_3 := blk_frozen BK214.out 3; have hcz34_0 : w31.cell? ⟨gb208, 0, none⟩ = some (.int .i64 0) := (blk_cell BK208.out 0).trans rfl; have hcz34_1 : w31.cell? ⟨gb208, 1, none⟩ = some (.int .i64 0) := (blk_cell BK208.out 1).trans rfl; have hcz34_2 : w31.cell? ⟨gb208, 2, none⟩ = some (.string (⟨#[]⟩ : ByteArray)) := (blk_cell BK208.out 2).trans rfl; have hcz34_3 : w31.cell? ⟨gb208, 3, none⟩ = some (.bool false) := (blk_cell BK208.out 3).trans rfl; have hfz34_0 := blk_frozen BK208.out 0; have hfz34_1 := blk_frozen BK208.out 1; have hfz34_2 := blk_frozen BK208.out 2; have hfz34_3 := blk_frozen BK208.out 3))
    refine bodyPost_ret (results_ct rfl _ _ gb208 27 #[.int .i64 0, .int .i64 0, .string (⟨#[]⟩ : ByteArray), .bool false] (0, 0) _ rfl (by (with_reducible repeat (first | refine blk_drewN ?_ _ | refine blk_drew ?_ | refine blk_alloc ?_ _)); refine blk_put (cs := #[.int .i64 0, .int .i64 0, .string (⟨#[]⟩ : ByteArray), .bool false]) ?_ 3 _ rfl; (with_reducible repeat (first | refine blk_drewN ?_ _ | refine blk_drew ?_ | refine blk_alloc ?_ _)); refine blk_put (cs := #[.int .i64 0, .int .i64 0, .string (⟨#[]⟩ : ByteArray), .bool false]) ?_ 2 _ rfl; (with_reducible repeat (first | refine blk_drewN ?_ _ | refine blk_drew ?_ | refine blk_alloc ?_ _)); refine blk_put (cs := #[.int .i64 0, .int .i64 0, .string (⟨#[]⟩ : ByteArray), .bool false]) ?_ 1 _ rfl; (with_reducible repeat (first | refine blk_drewN ?_ _ | refine blk_drew ?_ | refine blk_alloc ?_ _)); refine blk_put (cs := #[.int .i64 0, .int .i64 0, .string (⟨#[]⟩ : ByteArray), .bool false]) ?_ 0 _ rfl; (with_reducible repeat (first | refine blk_drewN ?_ _ | refine blk_drew ?_ | refine blk_alloc ?_ _)); refine blk_far ?_ NB208_214.out _; (with_reducible repeat (first | refine blk_drewN ?_ _ | refine blk_drew ?_ | refine blk_alloc ?_ _)); refine blk_far ?_ NB208_214.out _; (with_reducible repeat (first | refine blk_drewN ?_ _ | refine blk_drew ?_ | refine blk_alloc ?_ _)); refine blk_far ?_ NB208_214.out _; (with_reducible repeat (first | refine blk_drewN ?_ _ | refine blk_drew ?_ | refine blk_alloc ?_ _)); refine blk_far ?_ NB208_214.out _; (with_reducible repeat (first | refine blk_drewN ?_ _ | refine blk_drew ?_ | refine blk_alloc ?_ _)); exact BK208.out) Tryz.underlying27 rfl (by kernel_rfl)) rfl ?_
    exact ⟨by first | rfl | (simp [errW_none, errW_some] <;> rfl) | (simp [*, errW_none, errW_some] <;> rfl), hbT HB.out⟩

/-! ### refrainlaw1_begun: function 4 -/
def refrainlaw1_begun.f (k : Nat)  : Option (Bool) := (value_Show.f 1 (-12) (⟨#[]⟩ : ByteArray) false).bind fun bt217 => ((value_Binary.f k 3 1 2 (⟨#[]⟩ : ByteArray) false 1 3 (⟨#[]⟩ : ByteArray) false).bind fun bt219 => ((value_Read.f k (⟨#[34, 97, 34]⟩ : ByteArray)).bind fun bt225 => ((value_Valid.f bt219.1 bt219.2.1 bt219.2.2.1 bt219.2.2.2.1).bind fun t231 => (if t231 = true then (if bt217.2 = 0 then (if bt217.1.toList = ([45, 49, 50] : List UInt8) then (if bt219.2.2.2.2 = 0 then (if (bt219.1 == 1 && (bt219.2.1 == 5 && (bt219.2.2.1.toList == ([] : List UInt8) && (!bt219.2.2.2.1)))) = true then (if bt225.2.2.2.2 = 0 then (some (bt225.1 == 2 && (bt225.2.1 == 0 && (bt225.2.2.1.toList == ([97] : List UInt8) && (!bt225.2.2.2.1))))) else (some false)) else (some false)) else (some false)) else (some false)) else (some false)) else (some false)))))
set_option maxRecDepth 100000 in
theorem refrainlaw1_begun.mono : ∀ k, LeO (refrainlaw1_begun.f k ) (refrainlaw1_begun.f (k + 1) ) := by
  intro  k
  unfold refrainlaw1_begun.f
  repeat' first
      | (with_reducible exact value_Binary.mono _ _ _ _ _ _ _ _ _ _)
      | (with_reducible exact value_Read.mono _ _)
      | (with_reducible exact LeO.refl _)
      | (with_reducible exact LeO.none _)
      | (with_reducible refine LeO.ite ?_ ?_)
      | (with_reducible refine LeO.bind ?_ (fun _ => ?_))
      | exact value_Binary.mono _ _ _ _ _ _ _ _ _ _
      | exact value_Read.mono _ _
      | exact LeO.none _
      | refine LeO.ite ?_ ?_
      | refine LeO.bind ?_ (fun _ => ?_)
set_option maxHeartbeats 8000000 in
set_option maxRecDepth 100000 in
theorem refrainlaw1_begun.calls (k : Nat)  (r : Bool) (w : World) (HL_LErr : Aside0 (LErr w)) (HL_LG0 : Aside0 (LG0 w)) (HL_LG1 : Aside0 (LG1 w)) (HL_LSyn : Aside0 (LSyn w)) (h : refrainlaw1_begun.f k  = some r) (hr : r = true) :
    Calls Tryz.prog 4 #[] w fun e w' => e = .returned (.bool r) ∧ Below w.heap.size w w' := by
  replace hr := Aside0.mk hr
  have hu27 := Tryz.underlying27
  have HB := Aside0.mk (Below.refl w.heap.size w)
  have H : ((value_Show.f 1 (-12) (⟨#[]⟩ : ByteArray) false).bind fun bt217 => ((value_Binary.f k 3 1 2 (⟨#[]⟩ : ByteArray) false 1 3 (⟨#[]⟩ : ByteArray) false).bind fun bt219 => ((value_Read.f k (⟨#[34, 97, 34]⟩ : ByteArray)).bind fun bt225 => ((value_Valid.f bt219.1 bt219.2.1 bt219.2.2.1 bt219.2.2.2.1).bind fun t231 => (if t231 = true then (if bt217.2 = 0 then (if bt217.1.toList = ([45, 49, 50] : List UInt8) then (if bt219.2.2.2.2 = 0 then (if (bt219.1 == 1 && (bt219.2.1 == 5 && (bt219.2.2.1.toList == ([] : List UInt8) && (!bt219.2.2.2.1)))) = true then (if bt225.2.2.2.2 = 0 then (some (bt225.1 == 2 && (bt225.2.1 == 0 && (bt225.2.2.1.toList == ([97] : List UInt8) && (!bt225.2.2.2.1))))) else (some false)) else (some false)) else (some false)) else (some false)) else (some false)) else (some false)))))) = some r := h
  clear h
  replace H := Option.bind_eq_some_iff.mp H
  obtain ⟨⟨t217, t218⟩, A10, H⟩ := H
  replace H : ((value_Binary.f k 3 1 2 (⟨#[]⟩ : ByteArray) false 1 3 (⟨#[]⟩ : ByteArray) false).bind fun bt219 => ((value_Read.f k (⟨#[34, 97, 34]⟩ : ByteArray)).bind fun bt225 => ((value_Valid.f bt219.1 bt219.2.1 bt219.2.2.1 bt219.2.2.2.1).bind fun t231 => (if t231 = true then (if t218 = 0 then (if t217.toList = ([45, 49, 50] : List UInt8) then (if bt219.2.2.2.2 = 0 then (if (bt219.1 == 1 && (bt219.2.1 == 5 && (bt219.2.2.1.toList == ([] : List UInt8) && (!bt219.2.2.2.1)))) = true then (if bt225.2.2.2.2 = 0 then (some (bt225.1 == 2 && (bt225.2.1 == 0 && (bt225.2.2.1.toList == ([97] : List UInt8) && (!bt225.2.2.2.1))))) else (some false)) else (some false)) else (some false)) else (some false)) else (some false)) else (some false))))) = some r := H
  have A1 := Aside0.mk A10
  clear A10
  replace H := Option.bind_eq_some_iff.mp H
  obtain ⟨⟨t219, t220, t221, t222, t223⟩, A20, H⟩ := H
  replace H : ((value_Read.f k (⟨#[34, 97, 34]⟩ : ByteArray)).bind fun bt225 => ((value_Valid.f t219 t220 t221 t222).bind fun t231 => (if t231 = true then (if t218 = 0 then (if t217.toList = ([45, 49, 50] : List UInt8) then (if t223 = 0 then (if (t219 == 1 && (t220 == 5 && (t221.toList == ([] : List UInt8) && (!t222)))) = true then (if bt225.2.2.2.2 = 0 then (some (bt225.1 == 2 && (bt225.2.1 == 0 && (bt225.2.2.1.toList == ([97] : List UInt8) && (!bt225.2.2.2.1))))) else (some false)) else (some false)) else (some false)) else (some false)) else (some false)) else (some false)))) = some r := H
  have A2 := Aside0.mk A20
  clear A20
  replace H := Option.bind_eq_some_iff.mp H
  obtain ⟨⟨t225, t226, t227, t228, t229⟩, A30, H⟩ := H
  replace H : ((value_Valid.f t219 t220 t221 t222).bind fun t231 => (if t231 = true then (if t218 = 0 then (if t217.toList = ([45, 49, 50] : List UInt8) then (if t223 = 0 then (if (t219 == 1 && (t220 == 5 && (t221.toList == ([] : List UInt8) && (!t222)))) = true then (if t229 = 0 then (some (t225 == 2 && (t226 == 0 && (t227.toList == ([97] : List UInt8) && (!t228))))) else (some false)) else (some false)) else (some false)) else (some false)) else (some false)) else (some false))) = some r := H
  have A3 := Aside0.mk A30
  clear A30
  replace H := Option.bind_eq_some_iff.mp H
  obtain ⟨t231, A40, H⟩ := H
  replace H : (if t231 = true then (if t218 = 0 then (if t217.toList = ([45, 49, 50] : List UInt8) then (if t223 = 0 then (if (t219 == 1 && (t220 == 5 && (t221.toList == ([] : List UInt8) && (!t222)))) = true then (if t229 = 0 then (some (t225 == 2 && (t226 == 0 && (t227.toList == ([97] : List UInt8) && (!t228))))) else (some false)) else (some false)) else (some false)) else (some false)) else (some false)) else (some false)) = some r := H
  have A4 := Aside0.mk A40
  clear A40
  by_cases c5 : t231 = true
  · subst c5
    have H1 : (if t218 = 0 then (if t217.toList = ([45, 49, 50] : List UInt8) then (if t223 = 0 then (if (t219 == 1 && (t220 == 5 && (t221.toList == ([] : List UInt8) && (!t222)))) = true then (if t229 = 0 then (some (t225 == 2 && (t226 == 0 && (t227.toList == ([97] : List UInt8) && (!t228))))) else (some false)) else (some false)) else (some false)) else (some false)) else (some false)) = some r := by rw [if_pos rfl] at H; exact H
    clear H
    have H := H1
    clear H1
    by_cases c6 : t218 = 0
    · rw [if_pos c6] at H
      have c6b0 : (t218 == 0) = true := beq_iff_eq.mpr c6
      have c6b1 : (t218 != 0) = false := bne_eq_false_iff_eq.mpr c6
      clear c6
      by_cases c7 : t217.toList = ([45, 49, 50] : List UInt8)
      · rw [if_pos c7] at H
        have c7b0 : (t217.toList == ([45, 49, 50] : List UInt8)) = true := beq_iff_eq.mpr c7
        have c7b1 : (t217.toList != ([45, 49, 50] : List UInt8)) = false := bne_eq_false_iff_eq.mpr c7
        clear c7
        by_cases c8 : t223 = 0
        · rw [if_pos c8] at H
          have c8b0 : (t223 == 0) = true := beq_iff_eq.mpr c8
          have c8b1 : (t223 != 0) = false := bne_eq_false_iff_eq.mpr c8
          clear c8
          by_cases c9 : (t219 == 1 && (t220 == 5 && (t221.toList == ([] : List UInt8) && (!t222)))) = true
          · rw [if_pos c9] at H
            have c9b0 : (t219 == 1 && (t220 == 5 && (t221.toList == ([] : List UInt8) && (!t222)))) = true := c9
            (try (have c9b5 := c9; simp only [Bool.and_eq_true, beq_iff_eq, Bool.not_eq_true', Bool.not_eq_true, bne_iff_ne, decide_eq_true_eq] at c9b5; replace c9b5 := Aside0.mk c9b5))
            (try (have c9b1 : decide (t219 = 1 && (t220 == 5 && (t221.toList == ([] : List UInt8) && (!t222)))) = true := by simpa using c9))
            (try (have c9b2 : (t219 == 1 && (t220 == 5 && (t221.toList == ([] : List UInt8) && (!t222)))) = true := by simpa using c9))
            clear c9
            by_cases c10 : t229 = 0
            · rw [if_pos c10] at H
              have c10b0 : (t229 == 0) = true := beq_iff_eq.mpr c10
              have c10b1 : (t229 != 0) = false := bne_eq_false_iff_eq.mpr c10
              clear c10
              obtain rfl := Option.some.inj H
              go_enter Tryz.func4, Tryz.ntmps4
              go_wp2_with (first | ((with_reducible refine gate_callee (f := 6) rfl ?_); refine goesT (some 10) Tryz.func6 #[.agg #[.int .i64 1, .int .i64 (-12), .string (⟨#[]⟩ : ByteArray), .bool false]] ?_; (with_reducible refine (value_Show.calls 1 (-12) (⟨#[]⟩ : ByteArray) false t217 t218 _ ?side1 A1.out).mono ?_); (case side1 => first | (with_reducible exact HL_LG1) | exact ⟨LG1.below HL_LG1.out (hbT HB.out)⟩); rintro e w11 ⟨rfl, hb⟩; refine ⟨_, rfl, ?_⟩; replace HB := bsA HB hb; (try clear hb); (try clear hb2); (try clear hk); (try clear hi)) | ((with_reducible refine gate_callee (f := 7) rfl ?_); refine goesT (some 16) Tryz.func7 #[.int .i64 3, .agg #[.int .i64 1, .int .i64 2, .string (⟨#[]⟩ : ByteArray), .bool false], .agg #[.int .i64 1, .int .i64 3, .string (⟨#[]⟩ : ByteArray), .bool false]] ?_; (with_reducible refine (value_Binary.calls k 3 1 2 (⟨#[]⟩ : ByteArray) false 1 3 (⟨#[]⟩ : ByteArray) false t219 t220 t221 t222 t223 _ ?side1 A2.out).mono ?_); (case side1 => first | (with_reducible exact HL_LG0) | exact ⟨LG0.below HL_LG0.out (hbT HB.out)⟩); rintro e w12 ⟨rfl, hb⟩; refine ⟨_, rfl, ?_⟩; replace HB := bsA HB hb; (try clear hb); (try clear hb2); (try clear hk); (try clear hi)) | ((with_reducible refine gate_dst (N := 3) rfl ?_); refine box_event ?hg (N := 3) ?hd (cs := #[.int .i64 0, .int .i64 0, .string (⟨#[]⟩ : ByteArray), .bool false]) (t := 27) ?hr ?_; (case hd => rfl); (case hg => rfl); (case hr => first | (go_simp; done) | (go_simp; rfl)); intro gb224 hg w13 hbox hb; have BK224 := Aside0.mk hbox; have GW224 := geA hg HB; have GE224 := geA hg HB; replace HB := bsA HB hb; clear hb hbox hg; have hcz14_0 : w13.cell? ⟨gb224, 0, none⟩ = some (.int .i64 0) := (blk_cell BK224.out 0).trans rfl; have hcz14_1 : w13.cell? ⟨gb224, 1, none⟩ = some (.int .i64 0) := (blk_cell BK224.out 1).trans rfl; have hcz14_2 : w13.cell? ⟨gb224, 2, none⟩ = some (.string (⟨#[]⟩ : ByteArray)) := (blk_cell BK224.out 2).trans rfl; have hcz14_3 : w13.cell? ⟨gb224, 3, none⟩ = some (.bool false) := (blk_cell BK224.out 3).trans rfl; have hfz14_0 := blk_frozen BK224.out 0; have hfz14_1 := blk_frozen BK224.out 1; have hfz14_2 := blk_frozen BK224.out 2; have hfz14_3 := blk_frozen BK224.out 3) | ((with_reducible refine gate_callee (f := 8) rfl ?_); refine goesT (some 20) Tryz.func8 #[.string (⟨#[34, 97, 34]⟩ : ByteArray)] ?_; (with_reducible refine (value_Read.calls k (⟨#[34, 97, 34]⟩ : ByteArray) t225 t226 t227 t228 t229 _ ?side1 ?side2 ?side3 A3.out).mono ?_); (case side1 => first | (with_reducible exact HL_LErr) | exact ⟨LErr.below HL_LErr.out (hbT HB.out)⟩); (case side2 => first | (with_reducible exact HL_LG1) | exact ⟨LG1.below HL_LG1.out (hbT HB.out)⟩); (case side3 => first | (with_reducible exact HL_LSyn) | exact ⟨LSyn.below HL_LSyn.out (hbT HB.out)⟩); rintro e w15 ⟨rfl, hb⟩; refine ⟨_, rfl, ?_⟩; replace BK224 := Aside0.mk (blk_below (g := gb224) (o := .cells #[.int .i64 t219, .int .i64 t220, .string t221, .bool t222] 27 (0, 0)) (by (with_reducible repeat (first | refine blk_drewN ?_ _ | refine blk_drew ?_ | refine blk_alloc ?_ _)); refine blk_put (cs := #[.int .i64 t219, .int .i64 t220, .string t221, .bool false]) ?_ 3 _ rfl; (with_reducible repeat (first | refine blk_drewN ?_ _ | refine blk_drew ?_ | refine blk_alloc ?_ _)); refine blk_put (cs := #[.int .i64 t219, .int .i64 t220, .string (⟨#[]⟩ : ByteArray), .bool false]) ?_ 2 _ rfl; (with_reducible repeat (first | refine blk_drewN ?_ _ | refine blk_drew ?_ | refine blk_alloc ?_ _)); refine blk_put (cs := #[.int .i64 t219, .int .i64 0, .string (⟨#[]⟩ : ByteArray), .bool false]) ?_ 1 _ rfl; (with_reducible repeat (first | refine blk_drewN ?_ _ | refine blk_drew ?_ | refine blk_alloc ?_ _)); refine blk_put (cs := #[.int .i64 0, .int .i64 0, .string (⟨#[]⟩ : ByteArray), .bool false]) ?_ 0 _ rfl; (with_reducible repeat (first | refine blk_drewN ?_ _ | refine blk_drew ?_ | refine blk_alloc ?_ _)); exact BK224.out) hb); replace HB := bsA HB hb; (try clear hb); (try clear hb2); (try clear hk); (try clear hi)) | ((with_reducible refine gate_dst (N := 5) rfl ?_); refine box_event ?hg (N := 5) ?hd (cs := #[.int .i64 0, .int .i64 0, .string (⟨#[]⟩ : ByteArray), .bool false]) (t := 27) ?hr ?_; (case hd => rfl); (case hg => rfl); (case hr => first | (go_simp; done) | (go_simp; rfl)); intro gb230 hg w16 hbox hb; have BK230 := Aside0.mk hbox; have GW230 := geA hg HB; have GE230 := geA hg HB; have NB224_230 := neA hg BK224; have NB230_224 := neB hg BK224; replace BK224 := bbA BK224 hb; replace HB := bsA HB hb; clear hb hbox hg; have hnb17 := NB230_224.out; have hnc17 := NB224_230.out; have hcz18_0 : w16.cell? ⟨gb230, 0, none⟩ = some (.int .i64 0) := (blk_cell BK230.out 0).trans rfl; have hcz18_1 : w16.cell? ⟨gb230, 1, none⟩ = some (.int .i64 0) := (blk_cell BK230.out 1).trans rfl; have hcz18_2 : w16.cell? ⟨gb230, 2, none⟩ = some (.string (⟨#[]⟩ : ByteArray)) := (blk_cell BK230.out 2).trans rfl; have hcz18_3 : w16.cell? ⟨gb230, 3, none⟩ = some (.bool false) := (blk_cell BK230.out 3).trans rfl; have hfz18_0 := blk_frozen BK230.out 0; have hfz18_1 := blk_frozen BK230.out 1; have hfz18_2 := blk_frozen BK230.out 2; have hfz18_3 := blk_frozen BK230.out 3; have hcz19_0 : w16.cell? ⟨gb224, 0, none⟩ = some (.int .i64 t219) := (blk_cell BK224.out 0).trans rfl; have hcz19_1 : w16.cell? ⟨gb224, 1, none⟩ = some (.int .i64 t220) := (blk_cell BK224.out 1).trans rfl; have hcz19_2 : w16.cell? ⟨gb224, 2, none⟩ = some (.string t221) := (blk_cell BK224.out 2).trans rfl; have hcz19_3 : w16.cell? ⟨gb224, 3, none⟩ = some (.bool t222) := (blk_cell BK224.out 3).trans rfl; have hfz19_0 := blk_frozen BK224.out 0; have hfz19_1 := blk_frozen BK224.out 1; have hfz19_2 := blk_frozen BK224.out 2; have hfz19_3 := blk_frozen BK224.out 3) | ((with_reducible refine gate_callee (f := 9) rfl ?_); refine goesT (some 24) Tryz.func9 #[.agg #[.int .i64 t219, .int .i64 t220, .string t221, .bool t222]] ?_; (with_reducible refine (value_Valid.calls t219 t220 t221 t222 true _ A4.out).mono ?_); rintro e w20 ⟨rfl, hb⟩; refine ⟨_, rfl, ?_⟩; replace BK224 := Aside0.mk (blk_below (g := gb224) (o := .cells #[.int .i64 t219, .int .i64 t220, .string t221, .bool t222] 27 (0, 0)) (by (with_reducible repeat (first | refine blk_drewN ?_ _ | refine blk_drew ?_ | refine blk_alloc ?_ _)); refine blk_far ?_ NB224_230.out _; (with_reducible repeat (first | refine blk_drewN ?_ _ | refine blk_drew ?_ | refine blk_alloc ?_ _)); refine blk_far ?_ NB224_230.out _; (with_reducible repeat (first | refine blk_drewN ?_ _ | refine blk_drew ?_ | refine blk_alloc ?_ _)); refine blk_far ?_ NB224_230.out _; (with_reducible repeat (first | refine blk_drewN ?_ _ | refine blk_drew ?_ | refine blk_alloc ?_ _)); refine blk_far ?_ NB224_230.out _; (with_reducible repeat (first | refine blk_drewN ?_ _ | refine blk_drew ?_ | refine blk_alloc ?_ _)); exact BK224.out) hb); replace BK230 := Aside0.mk (blk_below (g := gb230) (o := .cells #[.int .i64 t225, .int .i64 t226, .string t227, .bool t228] 27 (0, 0)) (by (with_reducible repeat (first | refine blk_drewN ?_ _ | refine blk_drew ?_ | refine blk_alloc ?_ _)); refine blk_put (cs := #[.int .i64 t225, .int .i64 t226, .string t227, .bool false]) ?_ 3 _ rfl; (with_reducible repeat (first | refine blk_drewN ?_ _ | refine blk_drew ?_ | refine blk_alloc ?_ _)); refine blk_put (cs := #[.int .i64 t225, .int .i64 t226, .string (⟨#[]⟩ : ByteArray), .bool false]) ?_ 2 _ rfl; (with_reducible repeat (first | refine blk_drewN ?_ _ | refine blk_drew ?_ | refine blk_alloc ?_ _)); refine blk_put (cs := #[.int .i64 t225, .int .i64 0, .string (⟨#[]⟩ : ByteArray), .bool false]) ?_ 1 _ rfl; (with_reducible repeat (first | refine blk_drewN ?_ _ | refine blk_drew ?_ | refine blk_alloc ?_ _)); refine blk_put (cs := #[.int .i64 0, .int .i64 0, .string (⟨#[]⟩ : ByteArray), .bool false]) ?_ 0 _ rfl; (with_reducible repeat (first | refine blk_drewN ?_ _ | refine blk_drew ?_ | refine blk_alloc ?_ _)); exact BK230.out) hb); replace HB := bsA HB hb; (try clear hb); (try clear hb2); (try clear hk); (try clear hi); have hcz21_0 : w20.cell? ⟨gb224, 0, none⟩ = some (.int .i64 t219) := (blk_cell BK224.out 0).trans rfl; have hcz21_1 : w20.cell? ⟨gb224, 1, none⟩ = some (.int .i64 t220) := (blk_cell BK224.out 1).trans rfl; have hcz21_2 : w20.cell? ⟨gb224, 2, none⟩ = some (.string t221) := (blk_cell BK224.out 2).trans rfl; have hcz21_3 : w20.cell? ⟨gb224, 3, none⟩ = some (.bool t222) := (blk_cell BK224.out 3).trans rfl; have hfz21_0 := blk_frozen BK224.out 0; have hfz21_1 := blk_frozen BK224.out 1; have hfz21_2 := blk_frozen BK224.out 2; have hfz21_3 := blk_frozen BK224.out 3; have hcz22_0 : w20.cell? ⟨gb230, 0, none⟩ = some (.int .i64 t225) := (blk_cell BK230.out 0).trans rfl; have hcz22_1 : w20.cell? ⟨gb230, 1, none⟩ = some (.int .i64 t226) := (blk_cell BK230.out 1).trans rfl; have hcz22_2 : w20.cell? ⟨gb230, 2, none⟩ = some (.string t227) := (blk_cell BK230.out 2).trans rfl; have hcz22_3 : w20.cell? ⟨gb230, 3, none⟩ = some (.bool t228) := (blk_cell BK230.out 3).trans rfl; have hfz22_0 := blk_frozen BK230.out 0; have hfz22_1 := blk_frozen BK230.out 1; have hfz22_2 := blk_frozen BK230.out 2; have hfz22_3 := blk_frozen BK230.out 3))
              (try any_goals (exfalso; first | (have h_ := c9b5.out; contradiction)))
              go_ret
              exact ⟨by first | rfl | (simp [errW_none, errW_some] <;> rfl) | (simp [*, errW_none, errW_some] <;> rfl), hbT HB.out⟩
            · rw [if_neg c10] at H
              have c10b0 : (t229 == 0) = false := beq_eq_false_iff_ne.mpr c10
              have c10b1 : (t229 != 0) = true := bne_iff_ne.mpr c10
              exact absurd ((Option.some.inj H).trans hr.out) Bool.false_ne_true
          · rw [if_neg c9] at H
            have c9b0 : (t219 == 1 && (t220 == 5 && (t221.toList == ([] : List UInt8) && (!t222)))) = false := by simpa using c9
            (try (have c9b5 := c9; simp only [Bool.and_eq_true, beq_iff_eq, Bool.not_eq_true', Bool.not_eq_true, bne_iff_ne, decide_eq_true_eq] at c9b5; replace c9b5 := Aside0.mk c9b5))
            (try (have c9b1 : decide (t219 = 1 && (t220 == 5 && (t221.toList == ([] : List UInt8) && (!t222)))) = false := by simpa using c9))
            (try (have c9b2 : (t219 == 1 && (t220 == 5 && (t221.toList == ([] : List UInt8) && (!t222)))) = false := by simpa using c9))
            (try (have c9b3 : ¬ (t219 = 1 && (t220 == 5 && (t221.toList == ([] : List UInt8) && (!t222)))) := by simpa using c9))
            clear c9
            exact absurd ((Option.some.inj H).trans hr.out) Bool.false_ne_true
        · rw [if_neg c8] at H
          have c8b0 : (t223 == 0) = false := beq_eq_false_iff_ne.mpr c8
          have c8b1 : (t223 != 0) = true := bne_iff_ne.mpr c8
          exact absurd ((Option.some.inj H).trans hr.out) Bool.false_ne_true
      · rw [if_neg c7] at H
        have c7b0 : (t217.toList == ([45, 49, 50] : List UInt8)) = false := beq_eq_false_iff_ne.mpr c7
        have c7b1 : (t217.toList != ([45, 49, 50] : List UInt8)) = true := bne_iff_ne.mpr c7
        exact absurd ((Option.some.inj H).trans hr.out) Bool.false_ne_true
    · rw [if_neg c6] at H
      have c6b0 : (t218 == 0) = false := beq_eq_false_iff_ne.mpr c6
      have c6b1 : (t218 != 0) = true := bne_iff_ne.mpr c6
      exact absurd ((Option.some.inj H).trans hr.out) Bool.false_ne_true
  · replace c5 := Bool.eq_false_iff.mpr c5
    subst c5
    have H1 : (some false) = some r := by rw [if_neg (show ¬ (false = true) by decide)] at H; exact H
    clear H
    have H := H1
    clear H1
    exact absurd ((Option.some.inj H).trans hr.out) Bool.false_ne_true

/-! ### refrainref1_Valid: function 10 -/
def refrainref1_Valid.f (a0_0 : Int) (a0_1 : Int) (a0_2 : ByteArray) (a0_3 : Bool) : Option (Bool) := if a0_0 = 1 then (if a0_2.toList = ([] : List UInt8) then (some (!a0_3)) else (some false)) else (if a0_0 = 2 then (if a0_1 = 0 then (if a0_3 = true then (some false) else (some (decide ((a0_2.size : Int) ≤ 256)))) else (some false)) else (if a0_0 = 3 then (if a0_1 = 0 then (some (a0_2.toList == ([] : List UInt8))) else (some false)) else (some false)))
set_option maxHeartbeats 8000000 in
set_option maxRecDepth 100000 in
theorem refrainref1_Valid.calls (a0_0 : Int) (a0_1 : Int) (a0_2 : ByteArray) (a0_3 : Bool) (r : Bool) (w : World) (h : refrainref1_Valid.f a0_0 a0_1 a0_2 a0_3 = some r) :
    Calls Tryz.prog 10 #[.agg #[.int .i64 a0_0, .int .i64 a0_1, .string a0_2, .bool a0_3]] w fun e w' => e = .returned (.bool r) ∧ Below w.heap.size w w' := by
  have hu27 := Tryz.underlying27
  have HB := Aside0.mk (Below.refl w.heap.size w)
  have H : (if a0_0 = 1 then (if a0_2.toList = ([] : List UInt8) then (some (!a0_3)) else (some false)) else (if a0_0 = 2 then (if a0_1 = 0 then (if a0_3 = true then (some false) else (some (decide ((a0_2.size : Int) ≤ 256)))) else (some false)) else (if a0_0 = 3 then (if a0_1 = 0 then (some (a0_2.toList == ([] : List UInt8))) else (some false)) else (some false)))) = some r := h
  clear h
  by_cases c2 : a0_0 = 1
  · rw [if_pos c2] at H
    have c2b0 : (a0_0 == 1) = true := beq_iff_eq.mpr c2
    have c2b1 : (a0_0 != 1) = false := bne_eq_false_iff_eq.mpr c2
    clear c2
    by_cases c3 : a0_2.toList = ([] : List UInt8)
    · rw [if_pos c3] at H
      have c3b0 : (a0_2.toList == ([] : List UInt8)) = true := beq_iff_eq.mpr c3
      have c3b1 : (a0_2.toList != ([] : List UInt8)) = false := bne_eq_false_iff_eq.mpr c3
      clear c3
      obtain rfl := Option.some.inj H
      go_enter Tryz.func10, Tryz.ntmps10
      go_wp2_with (first | ((with_reducible refine gate_dst (N := 1) rfl ?_); (try (refine gate_guard (by rfl) ?_; dsimp only)); refine box_event ?hg (N := 1) ?hd (cs := #[.int .i64 a0_0, .int .i64 a0_1, .string a0_2, .bool a0_3]) (t := 27) ?hr ?_; (case hd => rfl); (case hg => rfl); (case hr => first | (go_simp; done) | (go_simp; rfl)); intro gb232 hg w4 hbox hb; have BK232 := Aside0.mk hbox; have GW232 := geA hg HB; have GE232 := geA hg HB; replace HB := bsA HB hb; clear hb hbox hg; have hcz5_0 : w4.cell? ⟨gb232, 0, none⟩ = some (.int .i64 a0_0) := (blk_cell BK232.out 0).trans rfl; have hcz5_1 : w4.cell? ⟨gb232, 1, none⟩ = some (.int .i64 a0_1) := (blk_cell BK232.out 1).trans rfl; have hcz5_2 : w4.cell? ⟨gb232, 2, none⟩ = some (.string a0_2) := (blk_cell BK232.out 2).trans rfl; have hcz5_3 : w4.cell? ⟨gb232, 3, none⟩ = some (.bool a0_3) := (blk_cell BK232.out 3).trans rfl; have hfz5_0 := blk_frozen BK232.out 0; have hfz5_1 := blk_frozen BK232.out 1; have hfz5_2 := blk_frozen BK232.out 2; have hfz5_3 := blk_frozen BK232.out 3))
      go_ret
      exact ⟨by first | rfl | (simp [errW_none, errW_some] <;> rfl) | (simp [*, errW_none, errW_some] <;> rfl), hbT HB.out⟩
    · rw [if_neg c3] at H
      have c3b0 : (a0_2.toList == ([] : List UInt8)) = false := beq_eq_false_iff_ne.mpr c3
      have c3b1 : (a0_2.toList != ([] : List UInt8)) = true := bne_iff_ne.mpr c3
      obtain rfl := Option.some.inj H
      go_enter Tryz.func10, Tryz.ntmps10
      go_wp2_with (first | ((with_reducible refine gate_dst (N := 1) rfl ?_); (try (refine gate_guard (by rfl) ?_; dsimp only)); refine box_event ?hg (N := 1) ?hd (cs := #[.int .i64 a0_0, .int .i64 a0_1, .string a0_2, .bool a0_3]) (t := 27) ?hr ?_; (case hd => rfl); (case hg => rfl); (case hr => first | (go_simp; done) | (go_simp; rfl)); intro gb232 hg w6 hbox hb; have BK232 := Aside0.mk hbox; have GW232 := geA hg HB; have GE232 := geA hg HB; replace HB := bsA HB hb; clear hb hbox hg; have hcz7_0 : w6.cell? ⟨gb232, 0, none⟩ = some (.int .i64 a0_0) := (blk_cell BK232.out 0).trans rfl; have hcz7_1 : w6.cell? ⟨gb232, 1, none⟩ = some (.int .i64 a0_1) := (blk_cell BK232.out 1).trans rfl; have hcz7_2 : w6.cell? ⟨gb232, 2, none⟩ = some (.string a0_2) := (blk_cell BK232.out 2).trans rfl; have hcz7_3 : w6.cell? ⟨gb232, 3, none⟩ = some (.bool a0_3) := (blk_cell BK232.out 3).trans rfl; have hfz7_0 := blk_frozen BK232.out 0; have hfz7_1 := blk_frozen BK232.out 1; have hfz7_2 := blk_frozen BK232.out 2; have hfz7_3 := blk_frozen BK232.out 3))
      go_ret
      exact ⟨by first | rfl | (simp [errW_none, errW_some] <;> rfl) | (simp [*, errW_none, errW_some] <;> rfl), hbT HB.out⟩
  · rw [if_neg c2] at H
    have c2b0 : (a0_0 == 1) = false := beq_eq_false_iff_ne.mpr c2
    have c2b1 : (a0_0 != 1) = true := bne_iff_ne.mpr c2
    by_cases c8 : a0_0 = 2
    · rw [if_pos c8] at H
      have c8b0 : (a0_0 == 2) = true := beq_iff_eq.mpr c8
      have c8b1 : (a0_0 != 2) = false := bne_eq_false_iff_eq.mpr c8
      clear c8
      by_cases c9 : a0_1 = 0
      · rw [if_pos c9] at H
        have c9b0 : (a0_1 == 0) = true := beq_iff_eq.mpr c9
        have c9b1 : (a0_1 != 0) = false := bne_eq_false_iff_eq.mpr c9
        clear c9
        by_cases c10 : a0_3 = true
        · subst c10
          have H1 : (some false) = some r := by rw [if_pos rfl] at H; exact H
          clear H
          have H := H1
          clear H1
          obtain rfl := Option.some.inj H
          go_enter Tryz.func10, Tryz.ntmps10
          go_wp2_with (first | ((with_reducible refine gate_dst (N := 1) rfl ?_); (try (refine gate_guard (by rfl) ?_; dsimp only)); refine box_event ?hg (N := 1) ?hd (cs := #[.int .i64 a0_0, .int .i64 a0_1, .string a0_2, .bool true]) (t := 27) ?hr ?_; (case hd => rfl); (case hg => rfl); (case hr => first | (go_simp; done) | (go_simp; rfl)); intro gb232 hg w11 hbox hb; have BK232 := Aside0.mk hbox; have GW232 := geA hg HB; have GE232 := geA hg HB; replace HB := bsA HB hb; clear hb hbox hg; have hcz12_0 : w11.cell? ⟨gb232, 0, none⟩ = some (.int .i64 a0_0) := (blk_cell BK232.out 0).trans rfl; have hcz12_1 : w11.cell? ⟨gb232, 1, none⟩ = some (.int .i64 a0_1) := (blk_cell BK232.out 1).trans rfl; have hcz12_2 : w11.cell? ⟨gb232, 2, none⟩ = some (.string a0_2) := (blk_cell BK232.out 2).trans rfl; have hcz12_3 : w11.cell? ⟨gb232, 3, none⟩ = some (.bool true) := (blk_cell BK232.out 3).trans rfl; have hfz12_0 := blk_frozen BK232.out 0; have hfz12_1 := blk_frozen BK232.out 1; have hfz12_2 := blk_frozen BK232.out 2; have hfz12_3 := blk_frozen BK232.out 3))
          go_ret
          exact ⟨by first | rfl | (simp [errW_none, errW_some] <;> rfl) | (simp [*, errW_none, errW_some] <;> rfl), hbT HB.out⟩
        · replace c10 := Bool.eq_false_iff.mpr c10
          subst c10
          have H1 : (some (decide ((a0_2.size : Int) ≤ 256))) = some r := by rw [if_neg (show ¬ (false = true) by decide)] at H; exact H
          clear H
          have H := H1
          clear H1
          obtain rfl := Option.some.inj H
          go_enter Tryz.func10, Tryz.ntmps10
          go_wp2_with (first | ((with_reducible refine gate_dst (N := 1) rfl ?_); (try (refine gate_guard (by rfl) ?_; dsimp only)); refine box_event ?hg (N := 1) ?hd (cs := #[.int .i64 a0_0, .int .i64 a0_1, .string a0_2, .bool false]) (t := 27) ?hr ?_; (case hd => rfl); (case hg => rfl); (case hr => first | (go_simp; done) | (go_simp; rfl)); intro gb232 hg w13 hbox hb; have BK232 := Aside0.mk hbox; have GW232 := geA hg HB; have GE232 := geA hg HB; replace HB := bsA HB hb; clear hb hbox hg; have hcz14_0 : w13.cell? ⟨gb232, 0, none⟩ = some (.int .i64 a0_0) := (blk_cell BK232.out 0).trans rfl; have hcz14_1 : w13.cell? ⟨gb232, 1, none⟩ = some (.int .i64 a0_1) := (blk_cell BK232.out 1).trans rfl; have hcz14_2 : w13.cell? ⟨gb232, 2, none⟩ = some (.string a0_2) := (blk_cell BK232.out 2).trans rfl; have hcz14_3 : w13.cell? ⟨gb232, 3, none⟩ = some (.bool false) := (blk_cell BK232.out 3).trans rfl; have hfz14_0 := blk_frozen BK232.out 0; have hfz14_1 := blk_frozen BK232.out 1; have hfz14_2 := blk_frozen BK232.out 2; have hfz14_3 := blk_frozen BK232.out 3))
          go_ret
          exact ⟨by first | rfl | (simp [errW_none, errW_some] <;> rfl) | (simp [*, errW_none, errW_some] <;> rfl), hbT HB.out⟩
      · rw [if_neg c9] at H
        have c9b0 : (a0_1 == 0) = false := beq_eq_false_iff_ne.mpr c9
        have c9b1 : (a0_1 != 0) = true := bne_iff_ne.mpr c9
        obtain rfl := Option.some.inj H
        go_enter Tryz.func10, Tryz.ntmps10
        go_wp2_with (first | ((with_reducible refine gate_dst (N := 1) rfl ?_); (try (refine gate_guard (by rfl) ?_; dsimp only)); refine box_event ?hg (N := 1) ?hd (cs := #[.int .i64 a0_0, .int .i64 a0_1, .string a0_2, .bool a0_3]) (t := 27) ?hr ?_; (case hd => rfl); (case hg => rfl); (case hr => first | (go_simp; done) | (go_simp; rfl)); intro gb232 hg w15 hbox hb; have BK232 := Aside0.mk hbox; have GW232 := geA hg HB; have GE232 := geA hg HB; replace HB := bsA HB hb; clear hb hbox hg; have hcz16_0 : w15.cell? ⟨gb232, 0, none⟩ = some (.int .i64 a0_0) := (blk_cell BK232.out 0).trans rfl; have hcz16_1 : w15.cell? ⟨gb232, 1, none⟩ = some (.int .i64 a0_1) := (blk_cell BK232.out 1).trans rfl; have hcz16_2 : w15.cell? ⟨gb232, 2, none⟩ = some (.string a0_2) := (blk_cell BK232.out 2).trans rfl; have hcz16_3 : w15.cell? ⟨gb232, 3, none⟩ = some (.bool a0_3) := (blk_cell BK232.out 3).trans rfl; have hfz16_0 := blk_frozen BK232.out 0; have hfz16_1 := blk_frozen BK232.out 1; have hfz16_2 := blk_frozen BK232.out 2; have hfz16_3 := blk_frozen BK232.out 3))
        go_ret
        exact ⟨by first | rfl | (simp [errW_none, errW_some] <;> rfl) | (simp [*, errW_none, errW_some] <;> rfl), hbT HB.out⟩
    · rw [if_neg c8] at H
      have c8b0 : (a0_0 == 2) = false := beq_eq_false_iff_ne.mpr c8
      have c8b1 : (a0_0 != 2) = true := bne_iff_ne.mpr c8
      by_cases c17 : a0_0 = 3
      · rw [if_pos c17] at H
        have c17b0 : (a0_0 == 3) = true := beq_iff_eq.mpr c17
        have c17b1 : (a0_0 != 3) = false := bne_eq_false_iff_eq.mpr c17
        clear c17
        by_cases c18 : a0_1 = 0
        · rw [if_pos c18] at H
          have c18b0 : (a0_1 == 0) = true := beq_iff_eq.mpr c18
          have c18b1 : (a0_1 != 0) = false := bne_eq_false_iff_eq.mpr c18
          clear c18
          obtain rfl := Option.some.inj H
          go_enter Tryz.func10, Tryz.ntmps10
          go_wp2_with (first | ((with_reducible refine gate_dst (N := 1) rfl ?_); (try (refine gate_guard (by rfl) ?_; dsimp only)); refine box_event ?hg (N := 1) ?hd (cs := #[.int .i64 a0_0, .int .i64 a0_1, .string a0_2, .bool a0_3]) (t := 27) ?hr ?_; (case hd => rfl); (case hg => rfl); (case hr => first | (go_simp; done) | (go_simp; rfl)); intro gb232 hg w19 hbox hb; have BK232 := Aside0.mk hbox; have GW232 := geA hg HB; have GE232 := geA hg HB; replace HB := bsA HB hb; clear hb hbox hg; have hcz20_0 : w19.cell? ⟨gb232, 0, none⟩ = some (.int .i64 a0_0) := (blk_cell BK232.out 0).trans rfl; have hcz20_1 : w19.cell? ⟨gb232, 1, none⟩ = some (.int .i64 a0_1) := (blk_cell BK232.out 1).trans rfl; have hcz20_2 : w19.cell? ⟨gb232, 2, none⟩ = some (.string a0_2) := (blk_cell BK232.out 2).trans rfl; have hcz20_3 : w19.cell? ⟨gb232, 3, none⟩ = some (.bool a0_3) := (blk_cell BK232.out 3).trans rfl; have hfz20_0 := blk_frozen BK232.out 0; have hfz20_1 := blk_frozen BK232.out 1; have hfz20_2 := blk_frozen BK232.out 2; have hfz20_3 := blk_frozen BK232.out 3))
          go_ret
          exact ⟨by first | rfl | (simp [errW_none, errW_some] <;> rfl) | (simp [*, errW_none, errW_some] <;> rfl), hbT HB.out⟩
        · rw [if_neg c18] at H
          have c18b0 : (a0_1 == 0) = false := beq_eq_false_iff_ne.mpr c18
          have c18b1 : (a0_1 != 0) = true := bne_iff_ne.mpr c18
          obtain rfl := Option.some.inj H
          go_enter Tryz.func10, Tryz.ntmps10
          go_wp2_with (first | ((with_reducible refine gate_dst (N := 1) rfl ?_); (try (refine gate_guard (by rfl) ?_; dsimp only)); refine box_event ?hg (N := 1) ?hd (cs := #[.int .i64 a0_0, .int .i64 a0_1, .string a0_2, .bool a0_3]) (t := 27) ?hr ?_; (case hd => rfl); (case hg => rfl); (case hr => first | (go_simp; done) | (go_simp; rfl)); intro gb232 hg w21 hbox hb; have BK232 := Aside0.mk hbox; have GW232 := geA hg HB; have GE232 := geA hg HB; replace HB := bsA HB hb; clear hb hbox hg; have hcz22_0 : w21.cell? ⟨gb232, 0, none⟩ = some (.int .i64 a0_0) := (blk_cell BK232.out 0).trans rfl; have hcz22_1 : w21.cell? ⟨gb232, 1, none⟩ = some (.int .i64 a0_1) := (blk_cell BK232.out 1).trans rfl; have hcz22_2 : w21.cell? ⟨gb232, 2, none⟩ = some (.string a0_2) := (blk_cell BK232.out 2).trans rfl; have hcz22_3 : w21.cell? ⟨gb232, 3, none⟩ = some (.bool a0_3) := (blk_cell BK232.out 3).trans rfl; have hfz22_0 := blk_frozen BK232.out 0; have hfz22_1 := blk_frozen BK232.out 1; have hfz22_2 := blk_frozen BK232.out 2; have hfz22_3 := blk_frozen BK232.out 3))
          go_ret
          exact ⟨by first | rfl | (simp [errW_none, errW_some] <;> rfl) | (simp [*, errW_none, errW_some] <;> rfl), hbT HB.out⟩
      · rw [if_neg c17] at H
        have c17b0 : (a0_0 == 3) = false := beq_eq_false_iff_ne.mpr c17
        have c17b1 : (a0_0 != 3) = true := bne_iff_ne.mpr c17
        obtain rfl := Option.some.inj H
        go_enter Tryz.func10, Tryz.ntmps10
        go_wp2_with (first | ((with_reducible refine gate_dst (N := 1) rfl ?_); (try (refine gate_guard (by rfl) ?_; dsimp only)); refine box_event ?hg (N := 1) ?hd (cs := #[.int .i64 a0_0, .int .i64 a0_1, .string a0_2, .bool a0_3]) (t := 27) ?hr ?_; (case hd => rfl); (case hg => rfl); (case hr => first | (go_simp; done) | (go_simp; rfl)); intro gb232 hg w23 hbox hb; have BK232 := Aside0.mk hbox; have GW232 := geA hg HB; have GE232 := geA hg HB; replace HB := bsA HB hb; clear hb hbox hg; have hcz24_0 : w23.cell? ⟨gb232, 0, none⟩ = some (.int .i64 a0_0) := (blk_cell BK232.out 0).trans rfl; have hcz24_1 : w23.cell? ⟨gb232, 1, none⟩ = some (.int .i64 a0_1) := (blk_cell BK232.out 1).trans rfl; have hcz24_2 : w23.cell? ⟨gb232, 2, none⟩ = some (.string a0_2) := (blk_cell BK232.out 2).trans rfl; have hcz24_3 : w23.cell? ⟨gb232, 3, none⟩ = some (.bool a0_3) := (blk_cell BK232.out 3).trans rfl; have hfz24_0 := blk_frozen BK232.out 0; have hfz24_1 := blk_frozen BK232.out 1; have hfz24_2 := blk_frozen BK232.out 2; have hfz24_3 := blk_frozen BK232.out 3))
        go_ret
        exact ⟨by first | rfl | (simp [errW_none, errW_some] <;> rfl) | (simp [*, errW_none, errW_some] <;> rfl), hbT HB.out⟩

/-! ### refrainref1_digits: function 28 -/
def refrainref1_digits.l0 : Nat → Int → ByteArray → Option (ByteArray)
  | 0, _, _ => none
  | k + 1, x0, x3 => if x0 ≥ 10 then ((some (([(IntKind.u64.wrap (48 + (Int.tmod x0 10))) % 256] : List Int) : List Int)).bind fun y233 => (if (strOfNums y233).size + x3.size ≤ 9223372036854775807 then (refrainref1_digits.l0 k (IntKind.u64.wrap (Int.tdiv x0 10)) ((strOfNums y233) ++ x3)) else (none))) else ((some (([(IntKind.u64.wrap (48 + x0)) % 256] : List Int) : List Int)).bind fun y236 => (if (strOfNums y236).size + x3.size ≤ 9223372036854775807 then (some ((strOfNums y236) ++ x3)) else (none)))
def refrainref1_digits.f (k : Nat) (a0 : Int) : Option (ByteArray) := refrainref1_digits.l0 k a0 (⟨#[]⟩ : ByteArray)
set_option maxRecDepth 100000 in
theorem refrainref1_digits.l0_zero : ∀ y0 y1, refrainref1_digits.l0 0 y0 y1 = none := fun _ _ => rfl
set_option maxRecDepth 100000 in
theorem refrainref1_digits.mono_l : ∀ k, (∀ y0 y1, LeO (refrainref1_digits.l0 k y0 y1) (refrainref1_digits.l0 (k + 1) y0 y1))
  | 0 => fun _ _ r h => by (unfold refrainref1_digits.l0 at h; cases h)
  | k + 1 => by
    have ih0 := refrainref1_digits.mono_l k
    · intro y0 y1
      unfold refrainref1_digits.l0
      repeat' first
      | (with_reducible exact ih0 _ _)
      | (with_reducible exact LeO.refl _)
      | (with_reducible exact LeO.none _)
      | (with_reducible refine LeO.ite ?_ ?_)
      | (with_reducible refine LeO.bind ?_ (fun _ => ?_))
      | exact ih0 _ _
      | exact LeO.none _
      | refine LeO.ite ?_ ?_
      | refine LeO.bind ?_ (fun _ => ?_)
set_option maxRecDepth 100000 in
theorem refrainref1_digits.mono : ∀ a0 k, LeO (refrainref1_digits.f k a0) (refrainref1_digits.f (k + 1) a0) := by
  intro a0 k
  have ih0 := refrainref1_digits.mono_l k
  unfold refrainref1_digits.f
  repeat' first
      | (with_reducible exact ih0 _ _)
      | (with_reducible exact LeO.refl _)
      | (with_reducible exact LeO.none _)
      | (with_reducible refine LeO.ite ?_ ?_)
      | (with_reducible refine LeO.bind ?_ (fun _ => ?_))
      | exact ih0 _ _
      | exact LeO.none _
      | refine LeO.ite ?_ ?_
      | refine LeO.bind ?_ (fun _ => ?_)
set_option maxHeartbeats 8000000 in
set_option maxRecDepth 100000 in
theorem refrainref1_digits.calls (k : Nat) (a0 : Int) (r : ByteArray) (w : World) (h : refrainref1_digits.f k a0 = some r) :
    Calls Tryz.prog 28 #[.int .u64 a0] w fun e w' => e = .returned (.string r) ∧ Below w.heap.size w w' := by
  have HB := Aside0.mk (Below.refl w.heap.size w)
  have H : (refrainref1_digits.l0 k a0 (⟨#[]⟩ : ByteArray)) = some r := h
  clear h
  have H' := Aside0.mk H
  clear H
  go_enter Tryz.func28, Tryz.ntmps28
  go_wp2
  go_loopg [0, 3] k (fun kq v0 v3 w' => ∃ (x0_1 : Int) (x3_1 : ByteArray), v0 = .int .u64 x0_1 ∧ v3 = .string x3_1 ∧ Aside0 (refrainref1_digits.l0 kq x0_1 x3_1 = some r) ∧ Aside0 (kq ≤ k) ∧ Aside0 (Below w.heap.size w w'))
  case atStart => exact ⟨(a0), ((⟨#[]⟩ : ByteArray)), (by first | rfl | (simp; done) | (simp [*]; done) | (simp; unfold wrap64; omega) | (congr 1; (try rw [Bool.eq_iff_iff]); simp [List.isEmpty_iff]; done)), (by first | rfl | (simp; done) | (simp [*]; done) | (simp; unfold wrap64; omega) | (congr 1; (try rw [Bool.eq_iff_iff]); simp [List.isEmpty_iff]; done)), H', ⟨Nat.le_refl _⟩, ⟨hbT HB.out⟩⟩
  case round =>
    clear H'
    obtain ⟨x0_1, x3_1, rfl, rfl, HA, HK1, HB⟩ := hrel
    cases gk with
    | zero => (have HA2 := HA.out; clear HA; revert HA2; rw [refrainref1_digits.l0_zero]; intro h_; cases h_)
    | succ k1 =>
      have H := HA.out
      clear HA
      simp only [refrainref1_digits.l0] at H
      by_cases c2 : x0_1 ≥ 10
      · rw [if_pos c2] at H
        have c2b0 : decide (10 ≤ x0_1) = true := decide_eq_true c2
        clear c2
        obtain ⟨y233, hy233⟩ : ∃ y_ : List Int, y_ = (([(IntKind.u64.wrap (48 + (Int.tmod x0_1 10))) % 256] : List Int)) := ⟨_, rfl⟩
        replace H : (if (strOfNums y233).size + x3_1.size ≤ 9223372036854775807 then (refrainref1_digits.l0 k1 (IntKind.u64.wrap (Int.tdiv x0_1 10)) ((strOfNums y233) ++ x3_1)) else (none)) = some r := by first | (rw [hy233]; with_reducible exact H) | (have H2_ := (Option.bind_some _ _).symm.trans H; rw [hy233]; with_reducible exact H2_) | (have H2_ := (Option.bind_some _ _).symm.trans H; with_reducible exact H2_) | with_reducible exact H | (rw [hy233]; exact H) | exact H
        have Ny233 := Aside0.mk hy233
        clear hy233
        by_cases c3 : (strOfNums y233).size + x3_1.size ≤ 9223372036854775807
        · rw [if_pos c3] at H
          have c3b0 := eq_true c3
          have c3b1 : decide ((strOfNums y233).size + x3_1.size ≤ 9223372036854775807) = true := decide_eq_true c3
          try have c3b2 : (9223372036854775807 < (strOfNums y233).size + x3_1.size) = False := eq_false (Nat.not_lt.2 c3)
          have H' := Aside0.mk H
          clear H
          go_wp2_with (first | ((with_reducible refine gate_dst (N := 10) rfl ?_); refine Kd.R_lit (Kd.int .u8) _ 5 ?hg (N := 10) ?hd (xs := ([(IntKind.u64.wrap (48 + (Int.tmod x0_1 10))) % 256] : List Int)) (inner := [.int .u8 ((IntKind.u64.wrap (48 + (Int.tmod x0_1 10))) % 256)]) (ok := fun _ => True) (okp := fun _ => True) ?hr ?hp (fun _ hk => hk) trivial (Below.refl _ _) (Nat.le_refl _) (by simp) ?_; (case hd => rfl); (case hg => rfl); (case hr => first | (go_simp; done) | (go_simp; rfl)); (case hp => exact (Reps.one (show Kd.M (Kd.int .u8) _ _ _ ((IntKind.u64.wrap (48 + (Int.tmod x0_1 10))) % 256) [.int .u8 ((IntKind.u64.wrap (48 + (Int.tmod x0_1 10))) % 256)] from rfl) (Reps.none _ _))); intro v234 w4 ho5 hb hg_ hnew_; clear hg_ hnew_; (first | rw [← Ny233.out] at ho5 | (simp only [Int.reduceToNat] at ho5; rw [← Ny233.out] at ho5)); have HO235 := Aside0.mk (Kd.R_lower ho5 (below_size (hbT HB.out))); replace HB := bsA HB hb; clear hb ho5; have hcv6 := own_string (P := Tryz.prog) Tryz.underlying60 Tryz.underlying5 Tryz.underlying9 (Kd.own_of_R HO235.out)))
          go_roundg k1
          case measure => have := HK1.out; omega
          case rel => exact ⟨(IntKind.u64.wrap (Int.tdiv x0_1 10)), ((strOfNums y233) ++ x3_1), (by first | rfl | (simp; done) | (simp [*]; done) | (simp; unfold wrap64; omega) | (congr 1; (try rw [Bool.eq_iff_iff]); simp [List.isEmpty_iff]; done)), (by first | rfl | (simp; done) | (simp [*]; done) | (simp; unfold wrap64; omega) | (congr 1; (try rw [Bool.eq_iff_iff]); simp [List.isEmpty_iff]; done)), H', ⟨by have := HK1.out; omega⟩, ⟨hbT HB.out⟩⟩
        · rw [if_neg c3] at H
          exact absurd H (by simp)
      · rw [if_neg c2] at H
        have c2b0 : decide (10 ≤ x0_1) = false := decide_eq_false c2
        clear c2
        obtain ⟨y236, hy236⟩ : ∃ y_ : List Int, y_ = (([(IntKind.u64.wrap (48 + x0_1)) % 256] : List Int)) := ⟨_, rfl⟩
        replace H : (if (strOfNums y236).size + x3_1.size ≤ 9223372036854775807 then (some ((strOfNums y236) ++ x3_1)) else (none)) = some r := by first | (rw [hy236]; with_reducible exact H) | (have H2_ := (Option.bind_some _ _).symm.trans H; rw [hy236]; with_reducible exact H2_) | (have H2_ := (Option.bind_some _ _).symm.trans H; with_reducible exact H2_) | with_reducible exact H | (rw [hy236]; exact H) | exact H
        have Ny236 := Aside0.mk hy236
        clear hy236
        by_cases c7 : (strOfNums y236).size + x3_1.size ≤ 9223372036854775807
        · rw [if_pos c7] at H
          have c7b0 := eq_true c7
          have c7b1 : decide ((strOfNums y236).size + x3_1.size ≤ 9223372036854775807) = true := decide_eq_true c7
          try have c7b2 : (9223372036854775807 < (strOfNums y236).size + x3_1.size) = False := eq_false (Nat.not_lt.2 c7)
          obtain rfl := Option.some.inj H
          go_wp2_with (first | ((with_reducible refine gate_dst (N := 19) rfl ?_); refine Kd.R_lit (Kd.int .u8) _ 5 ?hg (N := 19) ?hd (xs := ([(IntKind.u64.wrap (48 + x0_1)) % 256] : List Int)) (inner := [.int .u8 ((IntKind.u64.wrap (48 + x0_1)) % 256)]) (ok := fun _ => True) (okp := fun _ => True) ?hr ?hp (fun _ hk => hk) trivial (Below.refl _ _) (Nat.le_refl _) (by simp) ?_; (case hd => rfl); (case hg => rfl); (case hr => first | (go_simp; done) | (go_simp; rfl)); (case hp => exact (Reps.one (show Kd.M (Kd.int .u8) _ _ _ ((IntKind.u64.wrap (48 + x0_1)) % 256) [.int .u8 ((IntKind.u64.wrap (48 + x0_1)) % 256)] from rfl) (Reps.none _ _))); intro v237 w8 ho9 hb hg_ hnew_; clear hg_ hnew_; (first | rw [← Ny236.out] at ho9 | (simp only [Int.reduceToNat] at ho9; rw [← Ny236.out] at ho9)); have HO238 := Aside0.mk (Kd.R_lower ho9 (below_size (hbT HB.out))); replace HB := bsA HB hb; clear hb ho9; have hcv10 := own_string (P := Tryz.prog) Tryz.underlying60 Tryz.underlying5 Tryz.underlying9 (Kd.own_of_R HO238.out)))
          go_ret
          exact ⟨by first | rfl | (simp [errW_none, errW_some] <;> rfl) | (simp [*, errW_none, errW_some] <;> rfl), hbT HB.out⟩
        · rw [if_neg c7] at H
          exact absurd H (by simp)

/-! ### refrainref1_Hex: function 55 -/
def refrainref1_Hex.f (a0 : Int) : Option (Int) := if a0 < 10 then (some ((wrap64 (48 + a0)) % 256)) else (some ((wrap64 ((wrap64 (97 + a0)) - 10)) % 256))
set_option maxHeartbeats 8000000 in
set_option maxRecDepth 100000 in
theorem refrainref1_Hex.calls (a0 : Int) (r : Int) (w : World) (h : refrainref1_Hex.f a0 = some r) :
    Calls Tryz.prog 55 #[.int .i64 a0] w fun e w' => e = .returned (.int .u8 r) ∧ Drawn0 w w' := by
  have H : (if a0 < 10 then (some ((wrap64 (48 + a0)) % 256)) else (some ((wrap64 ((wrap64 (97 + a0)) - 10)) % 256))) = some r := h
  clear h
  by_cases c2 : a0 < 10
  · rw [if_pos c2] at H
    have c2b0 : decide (a0 < 10) = true := decide_eq_true c2
    clear c2
    obtain rfl := Option.some.inj H
    go_enter Tryz.func55, Tryz.ntmps55
    go_wp2
    go_ret
    exact ⟨by first | rfl | (simp; done) | (simp [*]; done) | (simp; unfold wrap64; omega) | (congr 1; (try rw [Bool.eq_iff_iff]); simp [List.isEmpty_iff]; done), by repeat (first | exact Drawn0.refl _ | apply Drawn0.step)⟩
  · rw [if_neg c2] at H
    have c2b0 : decide (a0 < 10) = false := decide_eq_false c2
    clear c2
    obtain rfl := Option.some.inj H
    go_enter Tryz.func55, Tryz.ntmps55
    go_wp2
    go_ret
    exact ⟨by first | rfl | (simp; done) | (simp [*]; done) | (simp; unfold wrap64; omega) | (congr 1; (try rw [Bool.eq_iff_iff]); simp [List.isEmpty_iff]; done), by repeat (first | exact Drawn0.refl _ | apply Drawn0.step)⟩

/-! ### refrainref1_quoted: function 29 -/
mutual
def refrainref1_quoted.l0 : Nat → ByteArray → List Int → Int → Option (ByteArray)
  | 0, _, _, _ => none
  | k + 1, x0, x3, x4 => if x4 < (x0.size : Int) then (if 0 ≤ x4 then (if (wrap64 (bt x0 x4)) = 34 then (refrainref1_quoted.j1 k x0 x3 x4 (wrap64 (bt x0 x4)) true) else (refrainref1_quoted.j1 k x0 x3 x4 (wrap64 (bt x0 x4)) ((wrap64 (bt x0 x4)) == 92))) else (none)) else (if x3.length < 140737488355328 then (some (strOfNums (x3 ++ [34]))) else (none))
def refrainref1_quoted.j1 : Nat → ByteArray → List Int → Int → Int → Bool → Option (ByteArray)
  | 0, _, _, _, _, _ => none
  | k + 1, x0, x3, x4, x5, x26 => if x26 = true then ((some (([92, (x5) % 256] : List Int) : List Int)).bind fun y245 => (if x3.length + y245.length < 140737488355328 then (refrainref1_quoted.l0 k x0 (x3 ++ y245) (wrap64 (x4 + 1))) else (none))) else (if x5 = 10 then ((some (([92, 110] : List Int) : List Int)).bind fun y251 => (if x3.length + y251.length < 140737488355328 then (refrainref1_quoted.l0 k x0 (x3 ++ y251) (wrap64 (x4 + 1))) else (none))) else (if x5 = 9 then ((some (([92, 116] : List Int) : List Int)).bind fun y257 => (if x3.length + y257.length < 140737488355328 then (refrainref1_quoted.l0 k x0 (x3 ++ y257) (wrap64 (x4 + 1))) else (none))) else (if x5 ≥ 32 then (refrainref1_quoted.j2 k x0 x3 x4 x5 (decide (x5 ≤ 126))) else (refrainref1_quoted.j2 k x0 x3 x4 x5 false))))
def refrainref1_quoted.j2 : Nat → ByteArray → List Int → Int → Int → Bool → Option (ByteArray)
  | 0, _, _, _, _, _ => none
  | k + 1, x0, x3, x4, x5, x50 => if x50 = true then (if x3.length < 140737488355328 then (refrainref1_quoted.l0 k x0 (x3 ++ [(x5) % 256]) (wrap64 (x4 + 1))) else (none)) else ((refrainref1_Hex.f (wrap64 (Int.tdiv x5 16))).bind fun t266 => ((refrainref1_Hex.f (Int.tmod x5 16)).bind fun t267 => ((some (([92, 120, t266, t267] : List Int) : List Int)).bind fun y268 => (if x3.length + y268.length < 140737488355328 then (refrainref1_quoted.l0 k x0 (x3 ++ y268) (wrap64 (x4 + 1))) else (none)))))
end
def refrainref1_quoted.f (k : Nat) (a0 : ByteArray) : Option (ByteArray) := refrainref1_quoted.l0 k a0 (([34] : List Int)) 0
set_option maxRecDepth 100000 in
theorem refrainref1_quoted.l0_zero : ∀ y0 y1 y2, refrainref1_quoted.l0 0 y0 y1 y2 = none := fun _ _ _ => rfl
set_option maxRecDepth 100000 in
theorem refrainref1_quoted.j1_zero : ∀ y0 y1 y2 y3 y4, refrainref1_quoted.j1 0 y0 y1 y2 y3 y4 = none := fun _ _ _ _ _ => rfl
set_option maxRecDepth 100000 in
theorem refrainref1_quoted.j2_zero : ∀ y0 y1 y2 y3 y4, refrainref1_quoted.j2 0 y0 y1 y2 y3 y4 = none := fun _ _ _ _ _ => rfl
set_option maxRecDepth 100000 in
theorem refrainref1_quoted.mono_l : ∀ k, (∀ y0 y1 y2, LeO (refrainref1_quoted.l0 k y0 y1 y2) (refrainref1_quoted.l0 (k + 1) y0 y1 y2)) ∧ (∀ y0 y1 y2 y3 y4, LeO (refrainref1_quoted.j1 k y0 y1 y2 y3 y4) (refrainref1_quoted.j1 (k + 1) y0 y1 y2 y3 y4)) ∧ (∀ y0 y1 y2 y3 y4, LeO (refrainref1_quoted.j2 k y0 y1 y2 y3 y4) (refrainref1_quoted.j2 (k + 1) y0 y1 y2 y3 y4))
  | 0 => ⟨fun _ _ _ r h => by (unfold refrainref1_quoted.l0 at h; cases h), fun _ _ _ _ _ r h => by (unfold refrainref1_quoted.j1 at h; cases h), fun _ _ _ _ _ r h => by (unfold refrainref1_quoted.j2 at h; cases h)⟩
  | k + 1 => by
    obtain ⟨ih0, ih1, ih2⟩ := refrainref1_quoted.mono_l k
    refine ⟨?_, ?_, ?_⟩
    · intro y0 y1 y2
      unfold refrainref1_quoted.l0
      repeat' first
      | (with_reducible exact ih0 _ _ _)
      | (with_reducible exact ih1 _ _ _ _ _)
      | (with_reducible exact ih2 _ _ _ _ _)
      | (with_reducible exact LeO.refl _)
      | (with_reducible exact LeO.none _)
      | (with_reducible refine LeO.ite ?_ ?_)
      | (with_reducible refine LeO.bind ?_ (fun _ => ?_))
      | exact ih0 _ _ _
      | exact ih1 _ _ _ _ _
      | exact ih2 _ _ _ _ _
      | exact LeO.none _
      | refine LeO.ite ?_ ?_
      | refine LeO.bind ?_ (fun _ => ?_)
    · intro y0 y1 y2 y3 y4
      unfold refrainref1_quoted.j1
      repeat' first
      | (with_reducible exact ih0 _ _ _)
      | (with_reducible exact ih1 _ _ _ _ _)
      | (with_reducible exact ih2 _ _ _ _ _)
      | (with_reducible exact LeO.refl _)
      | (with_reducible exact LeO.none _)
      | (with_reducible refine LeO.ite ?_ ?_)
      | (with_reducible refine LeO.bind ?_ (fun _ => ?_))
      | exact ih0 _ _ _
      | exact ih1 _ _ _ _ _
      | exact ih2 _ _ _ _ _
      | exact LeO.none _
      | refine LeO.ite ?_ ?_
      | refine LeO.bind ?_ (fun _ => ?_)
    · intro y0 y1 y2 y3 y4
      unfold refrainref1_quoted.j2
      repeat' first
      | (with_reducible exact ih0 _ _ _)
      | (with_reducible exact ih1 _ _ _ _ _)
      | (with_reducible exact ih2 _ _ _ _ _)
      | (with_reducible exact LeO.refl _)
      | (with_reducible exact LeO.none _)
      | (with_reducible refine LeO.ite ?_ ?_)
      | (with_reducible refine LeO.bind ?_ (fun _ => ?_))
      | exact ih0 _ _ _
      | exact ih1 _ _ _ _ _
      | exact ih2 _ _ _ _ _
      | exact LeO.none _
      | refine LeO.ite ?_ ?_
      | refine LeO.bind ?_ (fun _ => ?_)
set_option maxRecDepth 100000 in
theorem refrainref1_quoted.mono : ∀ a0 k, LeO (refrainref1_quoted.f k a0) (refrainref1_quoted.f (k + 1) a0) := by
  intro a0 k
  obtain ⟨ih0, ih1, ih2⟩ := refrainref1_quoted.mono_l k
  unfold refrainref1_quoted.f
  repeat' first
      | (with_reducible exact ih0 _ _ _)
      | (with_reducible exact ih1 _ _ _ _ _)
      | (with_reducible exact ih2 _ _ _ _ _)
      | (with_reducible exact LeO.refl _)
      | (with_reducible exact LeO.none _)
      | (with_reducible refine LeO.ite ?_ ?_)
      | (with_reducible refine LeO.bind ?_ (fun _ => ?_))
      | exact ih0 _ _ _
      | exact ih1 _ _ _ _ _
      | exact ih2 _ _ _ _ _
      | exact LeO.none _
      | refine LeO.ite ?_ ?_
      | refine LeO.bind ?_ (fun _ => ?_)
set_option maxHeartbeats 8000000 in
set_option maxRecDepth 100000 in
theorem refrainref1_quoted.calls (k : Nat) (a0 : ByteArray) (r : ByteArray) (w : World) (h : refrainref1_quoted.f k a0 = some r) :
    Calls Tryz.prog 29 #[.string a0] w fun e w' => e = .returned (.string r) ∧ Below w.heap.size w w' := by
  have HB := Aside0.mk (Below.refl w.heap.size w)
  have H : (refrainref1_quoted.l0 k a0 (([34] : List Int)) 0) = some r := h
  clear h
  obtain ⟨y239, hy239⟩ : ∃ y_ : List Int, y_ = (([34] : List Int)) := ⟨_, rfl⟩
  replace H : (refrainref1_quoted.l0 k a0 y239 0) = some r := by first | (rw [hy239]; with_reducible exact H) | (have H2_ := (Option.bind_some _ _).symm.trans H; rw [hy239]; with_reducible exact H2_) | (have H2_ := (Option.bind_some _ _).symm.trans H; with_reducible exact H2_) | with_reducible exact H | (rw [hy239]; exact H) | exact H
  have Ny239 := Aside0.mk hy239
  clear hy239
  have H' := Aside0.mk H
  clear H
  go_enter Tryz.func29, Tryz.ntmps29
  go_wp2_with (first | ((with_reducible refine gate_dst (N := 6) rfl ?_); refine Kd.R_lit (Kd.int .u8) _ 5 ?hg (N := 6) ?hd (xs := ([34] : List Int)) (inner := [.int .u8 34]) (ok := fun _ => True) (okp := fun _ => True) ?hr ?hp (fun _ hk => hk) trivial (Below.refl _ _) (Nat.le_refl _) (by simp) ?_; (case hd => rfl); (case hg => rfl); (case hr => first | (go_simp; done) | (go_simp; rfl)); (case hp => exact (Reps.one (show Kd.M (Kd.int .u8) _ _ _ 34 [.int .u8 34] from rfl) (Reps.none _ _))); intro v240 w2 ho3 hb hg_ hnew_; clear hg_ hnew_; (first | rw [← Ny239.out] at ho3 | (simp only [Int.reduceToNat] at ho3; rw [← Ny239.out] at ho3)); have HO241 := Aside0.mk (Kd.R_lower ho3 (below_size (hbT HB.out))); replace HB := bsA HB hb; clear hb ho3))
  go_loopg [3, 4] k (fun kq v3 v4 w' => ∃ (x3_1 : List Int) (x4_1 : Int), v4 = .int .i64 x4_1 ∧ Aside0 (refrainref1_quoted.l0 kq a0 x3_1 x4_1 = some r) ∧ Aside0 (kq ≤ k) ∧ Aside0 (Kd.R (Kd.int .u8) 5 w' w.heap.size (fun _ => True) v3 x3_1) ∧ Aside0 (Below w.heap.size w w'))
  case atStart => exact ⟨(y239), (0), (by first | rfl | (simp; done) | (simp [*]; done) | (simp; unfold wrap64; omega) | (congr 1; (try rw [Bool.eq_iff_iff]); simp [List.isEmpty_iff]; done)), H', ⟨Nat.le_refl _⟩, ⟨by (with_reducible repeat (first | apply Kd.R_alloc | apply Kd.R_drewN | apply Kd.R_drew)); exact HO241.out⟩, ⟨hbT HB.out⟩⟩
  case round =>
    clear H'
    try clear c2
    try clear p2
    obtain ⟨x3_1, x4_1, rfl, HA, HK1, HO_3, HB⟩ := hrel
    cases gk with
    | zero => (have HA2 := HA.out; clear HA; revert HA2; rw [refrainref1_quoted.l0_zero]; intro h_; cases h_)
    | succ k1 =>
      have H := HA.out
      clear HA
      simp only [refrainref1_quoted.l0] at H
      by_cases c4 : x4_1 < (a0.size : Int)
      · rw [if_pos c4] at H
        have c4b0 : decide (x4_1 < (a0.size : Int)) = true := decide_eq_true c4
        clear c4
        by_cases c5 : 0 ≤ x4_1
        · rw [if_pos c5] at H
          have c5b0 : decide (0 ≤ x4_1) = true := decide_eq_true c5
          clear c5
          have HC7 := Aside0.mk H
          clear H
          have p6 : 0 ≤ (x4_1 : Int) := of_decide_eq_true (by first | (with_reducible assumption) | assumption)
          have q6 : x4_1 < (a0.size : Int) := of_decide_eq_true (by first | (with_reducible assumption) | assumption)
          have hx6 := bt_at a0 x4_1
          replace p6 := eq_true p6
          replace q6 := eq_true q6
          go_upto_region 7 with (fail)
          go_cut [26] (fun v26 wc => ∃ (kq : Nat) (x26_6 : Bool), v26 = .bool x26_6 ∧ Aside0 (refrainref1_quoted.j1 kq a0 x3_1 x4_1 (wrap64 (bt a0 x4_1)) x26_6 = some r) ∧ Aside0 (kq ≤ k1) ∧ Aside0 (Kd.R (Kd.int .u8) 5 wc w.heap.size (fun _ => True) u3 x3_1) ∧ Aside0 (Below w.heap.size w wc))
          case first =>
            have H := HC7.out
            clear HC7
            by_cases c8 : (wrap64 (bt a0 x4_1)) = 34
            · rw [if_pos c8] at H
              have c8b0 : ((wrap64 (bt a0 x4_1)) == 34) = true := beq_iff_eq.mpr c8
              have c8b1 : ((wrap64 (bt a0 x4_1)) != 34) = false := bne_eq_false_iff_eq.mpr c8
              clear c8
              (first | rw [c8b0] | (simp only [i64_w, i32_w, IntKind.wrap_u8, IntKind.wrap_u16, IntKind.wrap_u32]; rw [c8b0]) | skip)
              have H' := Aside0.mk H
              clear H
              go_wp2
              go_meet
              case rel => exact ⟨_, (true), (by first | rfl | (simp; done) | (simp [*]; done) | (simp; unfold wrap64; omega) | (congr 1; (try rw [Bool.eq_iff_iff]); simp [List.isEmpty_iff]; done)), H', ⟨by have := HK1.out; first | omega | exact Nat.le_refl _⟩, ⟨by (with_reducible repeat (first | apply Kd.R_alloc | apply Kd.R_drewN | apply Kd.R_drew)); exact HO_3.out⟩, ⟨hbT HB.out⟩⟩
            · rw [if_neg c8] at H
              have c8b0 : ((wrap64 (bt a0 x4_1)) == 34) = false := beq_eq_false_iff_ne.mpr c8
              have c8b1 : ((wrap64 (bt a0 x4_1)) != 34) = true := bne_iff_ne.mpr c8
              (first | rw [c8b0] | (simp only [i64_w, i32_w, IntKind.wrap_u8, IntKind.wrap_u16, IntKind.wrap_u32]; rw [c8b0]) | skip)
              have H' := Aside0.mk H
              clear H
              go_wp2
              go_meet
              case rel => exact ⟨_, (((wrap64 (bt a0 x4_1)) == 92)), (by first | rfl | (simp; done) | (simp [*]; done) | (simp; unfold wrap64; omega) | (congr 1; (try rw [Bool.eq_iff_iff]); simp [List.isEmpty_iff]; done)), H', ⟨by have := HK1.out; first | omega | exact Nat.le_refl _⟩, ⟨by (with_reducible repeat (first | apply Kd.R_alloc | apply Kd.R_drewN | apply Kd.R_drew)); exact HO_3.out⟩, ⟨hbT HB.out⟩⟩
          case rest =>
            clear HC7
            try clear c2
            try clear p2
            try clear c4
            try clear c4b0
            try clear c5
            try clear c5b0
            try clear p6
            try clear q6
            try clear hx6
            try clear c8
            try clear c8b0
            try clear c8b1
            try clear p2
            try clear p6
            try clear q6
            obtain ⟨kq, x26_6, rfl, HA, HJ6, HO_3, HB⟩ := hcut
            cases kq with
            | zero => (have HA2 := HA.out; clear HA; revert HA2; rw [refrainref1_quoted.j1_zero]; intro h_; cases h_)
            | succ kj6 =>
              have H := HA.out
              clear HA
              simp only [refrainref1_quoted.j1] at H
              by_cases c9 : x26_6 = true
              · subst c9
                have H1 : ((some (([92, ((wrap64 (bt a0 x4_1))) % 256] : List Int) : List Int)).bind fun y245 => (if x3_1.length + y245.length < 140737488355328 then (refrainref1_quoted.l0 kj6 a0 (x3_1 ++ y245) (wrap64 (x4_1 + 1))) else (none))) = some r := by rw [if_pos rfl] at H; exact H
                clear H
                have H := H1
                clear H1
                obtain ⟨y245, hy245⟩ : ∃ y_ : List Int, y_ = (([92, ((wrap64 (bt a0 x4_1))) % 256] : List Int)) := ⟨_, rfl⟩
                replace H : (if x3_1.length + y245.length < 140737488355328 then (refrainref1_quoted.l0 kj6 a0 (x3_1 ++ y245) (wrap64 (x4_1 + 1))) else (none)) = some r := by first | (rw [hy245]; with_reducible exact H) | (have H2_ := (Option.bind_some _ _).symm.trans H; rw [hy245]; with_reducible exact H2_) | (have H2_ := (Option.bind_some _ _).symm.trans H; with_reducible exact H2_) | with_reducible exact H | (rw [hy245]; exact H) | exact H
                have Ny245 := Aside0.mk hy245
                clear hy245
                by_cases c10 : x3_1.length + y245.length < 140737488355328
                · rw [if_pos c10] at H
                  have LMc10 := Aside0.mk c10
                  clear c10
                  obtain ⟨y248, hy248⟩ : ∃ y_ : List Int, y_ = (x3_1 ++ y245) := ⟨_, rfl⟩
                  replace H : (refrainref1_quoted.l0 kj6 a0 y248 (wrap64 (x4_1 + 1))) = some r := by first | (rw [hy248]; with_reducible exact H) | (have H2_ := (Option.bind_some _ _).symm.trans H; rw [hy248]; with_reducible exact H2_) | (have H2_ := (Option.bind_some _ _).symm.trans H; with_reducible exact H2_) | with_reducible exact H | (rw [hy248]; exact H) | exact H
                  have Ny248 := Aside0.mk hy248
                  clear hy248
                  have H' := Aside0.mk H
                  clear H
                  go_wp2_with (first | ((with_reducible refine gate_dst (N := 36) rfl ?_); refine Kd.R_lit (Kd.int .u8) _ 5 ?hg (N := 36) ?hd (xs := ([92, ((wrap64 (bt a0 x4_1))) % 256] : List Int)) (inner := [.int .u8 92, .int .u8 (((wrap64 (bt a0 x4_1))) % 256)]) (ok := fun _ => True) (okp := fun _ => True) ?hr ?hp (fun _ hk => hk) trivial (Below.refl _ _) (Nat.le_refl _) (by simp) ?_; (case hd => rfl); (case hg => rfl); (case hr => first | (go_simp; done) | (go_simp; rfl)); (case hp => exact (Reps.one (show Kd.M (Kd.int .u8) _ _ _ 92 [.int .u8 92] from rfl) (Reps.one (show Kd.M (Kd.int .u8) _ _ _ (((wrap64 (bt a0 x4_1))) % 256) [.int .u8 (((wrap64 (bt a0 x4_1))) % 256)] from rfl) (Reps.none _ _)))); intro v246 w11 ho12 hb hg_ hnew_; clear hg_ hnew_; (first | rw [← Ny245.out] at ho12 | (simp only [Int.reduceToNat] at ho12; rw [← Ny245.out] at ho12)); have HO247 := Aside0.mk (Kd.R_lower (Kd.R_new' ho12 (Kd.R_lt (by (with_reducible repeat (first | apply Kd.R_alloc | apply Kd.R_drewN | apply Kd.R_drew)); exact HO_3.out))) (below_size (hbT HB.out))); replace HO_3 := Aside0.mk (Kd.R_elder' (by (with_reducible repeat (first | apply Kd.R_alloc | apply Kd.R_drewN | apply Kd.R_drew)); exact HO_3.out) (Kd.R_base ho12) hb); replace HB := bsA HB hb; clear hb ho12; obtain ⟨Ao14, co14, eo14⟩ := Kd.R_slice HO247.out; subst eo14) | ((with_reducible refine gate_builtin (b := .append) (xs := #[.tmp 33, .tmp 36]) rfl ?_); at_builtin; refine Kd.R_append_rows (Kd.int .u8) (w0 := w) w.heap.size rfl (.tmp 33) (.tmp 36) 60 5 (.int .u8 0) 1 rfl Tryz.underlying60 info5 rfl (by decide) (by omega) u3 x3_1 y245 _ _ _ (fun k_ => some k_ ≠ (.slice Ao14 y245.length co14 : Value).ownBlock) (fun _ => False) rfl rfl ?aO ?aR (fun _ _ h => h) (fun _ h => h.elim) ?aF ?aB ?aS ?aL ?_; (case aR => repeat (first | exact (Kd.R_reads' HO247.out).2.2 | (with_reducible refine Kd.C_alloc ?_ _) | (with_reducible refine Kd.C_drewN ?_ _) | (with_reducible refine Kd.C_drew ?_))); (case aB => exact (hbT HB.out)); (case aF => exact (fun k_ hk => Kd.fresh' (Kd.R_lt (by (with_reducible repeat (first | apply Kd.R_alloc | apply Kd.R_drewN | apply Kd.R_drew)); exact HO247.out)) k_ hk)); (case aO => exact (by (with_reducible repeat (first | apply Kd.R_alloc | apply Kd.R_drewN | apply Kd.R_drew)); exact Kd.R_mono HO_3.out (fun _ hk => hk.2))); (case aS => exact (below_size (hbT HB.out))); (case aL => have := LMc10.out; omega); intro v249 w13 ho hb hg hat; rw [← Ny248.out] at ho; have n0_ := Aside0.mk (Kd.R_after (ok := (fun _ => True)) (by (with_reducible repeat (first | apply Kd.R_alloc | apply Kd.R_drewN | apply Kd.R_drew)); exact HO247.out) hg hat); have n1_ := Aside0.mk (hb); have n2_ := Aside0.mk (ho); clear HO247; clear HB; clear HO_3; have HO247 := n0_; have HB := n1_; have HO250 := n2_; clear n0_ n1_ n2_; clear ho hb hg hat))
                  go_roundg kj6
                  case measure => have := HK1.out; have := HJ6.out; omega
                  case rel => exact ⟨(y248), (wrap64 (x4_1 + 1)), (by first | rfl | (simp; done) | (simp [*]; done) | (simp; unfold wrap64; omega) | (congr 1; (try rw [Bool.eq_iff_iff]); simp [List.isEmpty_iff]; done)), H', ⟨by have := HK1.out; have := HJ6.out; omega⟩, ⟨by (with_reducible repeat (first | apply Kd.R_alloc | apply Kd.R_drewN | apply Kd.R_drew)); exact Kd.R_mono HO250.out (fun _ hk => trivial)⟩, ⟨hbT HB.out⟩⟩
                · rw [if_neg c10] at H
                  exact absurd H (by simp)
              · replace c9 := Bool.eq_false_iff.mpr c9
                subst c9
                have H1 : (if (wrap64 (bt a0 x4_1)) = 10 then ((some (([92, 110] : List Int) : List Int)).bind fun y251 => (if x3_1.length + y251.length < 140737488355328 then (refrainref1_quoted.l0 kj6 a0 (x3_1 ++ y251) (wrap64 (x4_1 + 1))) else (none))) else (if (wrap64 (bt a0 x4_1)) = 9 then ((some (([92, 116] : List Int) : List Int)).bind fun y257 => (if x3_1.length + y257.length < 140737488355328 then (refrainref1_quoted.l0 kj6 a0 (x3_1 ++ y257) (wrap64 (x4_1 + 1))) else (none))) else (if (wrap64 (bt a0 x4_1)) ≥ 32 then (refrainref1_quoted.j2 kj6 a0 x3_1 x4_1 (wrap64 (bt a0 x4_1)) (decide ((wrap64 (bt a0 x4_1)) ≤ 126))) else (refrainref1_quoted.j2 kj6 a0 x3_1 x4_1 (wrap64 (bt a0 x4_1)) false)))) = some r := by rw [if_neg (show ¬ (false = true) by decide)] at H; exact H
                clear H
                have H := H1
                clear H1
                by_cases c15 : (wrap64 (bt a0 x4_1)) = 10
                · rw [if_pos c15] at H
                  have c15b0 : ((wrap64 (bt a0 x4_1)) == 10) = true := beq_iff_eq.mpr c15
                  have c15b1 : ((wrap64 (bt a0 x4_1)) != 10) = false := bne_eq_false_iff_eq.mpr c15
                  clear c15
                  obtain ⟨y251, hy251⟩ : ∃ y_ : List Int, y_ = (([92, 110] : List Int)) := ⟨_, rfl⟩
                  replace H : (if x3_1.length + y251.length < 140737488355328 then (refrainref1_quoted.l0 kj6 a0 (x3_1 ++ y251) (wrap64 (x4_1 + 1))) else (none)) = some r := by first | (rw [hy251]; with_reducible exact H) | (have H2_ := (Option.bind_some _ _).symm.trans H; rw [hy251]; with_reducible exact H2_) | (have H2_ := (Option.bind_some _ _).symm.trans H; with_reducible exact H2_) | with_reducible exact H | (rw [hy251]; exact H) | exact H
                  have Ny251 := Aside0.mk hy251
                  clear hy251
                  by_cases c16 : x3_1.length + y251.length < 140737488355328
                  · rw [if_pos c16] at H
                    have LMc16 := Aside0.mk c16
                    clear c16
                    obtain ⟨y254, hy254⟩ : ∃ y_ : List Int, y_ = (x3_1 ++ y251) := ⟨_, rfl⟩
                    replace H : (refrainref1_quoted.l0 kj6 a0 y254 (wrap64 (x4_1 + 1))) = some r := by first | (rw [hy254]; with_reducible exact H) | (have H2_ := (Option.bind_some _ _).symm.trans H; rw [hy254]; with_reducible exact H2_) | (have H2_ := (Option.bind_some _ _).symm.trans H; with_reducible exact H2_) | with_reducible exact H | (rw [hy254]; exact H) | exact H
                    have Ny254 := Aside0.mk hy254
                    clear hy254
                    have H' := Aside0.mk H
                    clear H
                    go_wp2_with (first | ((with_reducible refine gate_dst (N := 42) rfl ?_); refine Kd.R_lit (Kd.int .u8) _ 5 ?hg (N := 42) ?hd (xs := ([92, 110] : List Int)) (inner := [.int .u8 92, .int .u8 110]) (ok := fun _ => True) (okp := fun _ => True) ?hr ?hp (fun _ hk => hk) trivial (Below.refl _ _) (Nat.le_refl _) (by simp) ?_; (case hd => rfl); (case hg => rfl); (case hr => first | (go_simp; done) | (go_simp; rfl)); (case hp => exact (Reps.one (show Kd.M (Kd.int .u8) _ _ _ 92 [.int .u8 92] from rfl) (Reps.one (show Kd.M (Kd.int .u8) _ _ _ 110 [.int .u8 110] from rfl) (Reps.none _ _)))); intro v252 w17 ho18 hb hg_ hnew_; clear hg_ hnew_; (first | rw [← Ny251.out] at ho18 | (simp only [Int.reduceToNat] at ho18; rw [← Ny251.out] at ho18)); have HO253 := Aside0.mk (Kd.R_lower (Kd.R_new' ho18 (Kd.R_lt (by (with_reducible repeat (first | apply Kd.R_alloc | apply Kd.R_drewN | apply Kd.R_drew)); exact HO_3.out))) (below_size (hbT HB.out))); replace HO_3 := Aside0.mk (Kd.R_elder' (by (with_reducible repeat (first | apply Kd.R_alloc | apply Kd.R_drewN | apply Kd.R_drew)); exact HO_3.out) (Kd.R_base ho18) hb); replace HB := bsA HB hb; clear hb ho18; obtain ⟨Ao20, co20, eo20⟩ := Kd.R_slice HO253.out; subst eo20) | ((with_reducible refine gate_builtin (b := .append) (xs := #[.tmp 41, .tmp 42]) rfl ?_); at_builtin; refine Kd.R_append_rows (Kd.int .u8) (w0 := w) w.heap.size rfl (.tmp 41) (.tmp 42) 60 5 (.int .u8 0) 1 rfl Tryz.underlying60 info5 rfl (by decide) (by omega) u3 x3_1 y251 _ _ _ (fun k_ => some k_ ≠ (.slice Ao20 y251.length co20 : Value).ownBlock) (fun _ => False) rfl rfl ?aO ?aR (fun _ _ h => h) (fun _ h => h.elim) ?aF ?aB ?aS ?aL ?_; (case aR => repeat (first | exact (Kd.R_reads' HO253.out).2.2 | (with_reducible refine Kd.C_alloc ?_ _) | (with_reducible refine Kd.C_drewN ?_ _) | (with_reducible refine Kd.C_drew ?_))); (case aB => exact (hbT HB.out)); (case aF => exact (fun k_ hk => Kd.fresh' (Kd.R_lt (by (with_reducible repeat (first | apply Kd.R_alloc | apply Kd.R_drewN | apply Kd.R_drew)); exact HO253.out)) k_ hk)); (case aO => exact (by (with_reducible repeat (first | apply Kd.R_alloc | apply Kd.R_drewN | apply Kd.R_drew)); exact Kd.R_mono HO_3.out (fun _ hk => hk.2))); (case aS => exact (below_size (hbT HB.out))); (case aL => have := LMc16.out; omega); intro v255 w19 ho hb hg hat; rw [← Ny254.out] at ho; have n0_ := Aside0.mk (Kd.R_after (ok := (fun _ => True)) (by (with_reducible repeat (first | apply Kd.R_alloc | apply Kd.R_drewN | apply Kd.R_drew)); exact HO253.out) hg hat); have n1_ := Aside0.mk (hb); have n2_ := Aside0.mk (ho); clear HO253; clear HB; clear HO_3; have HO253 := n0_; have HB := n1_; have HO256 := n2_; clear n0_ n1_ n2_; clear ho hb hg hat))
                    go_roundg kj6
                    case measure => have := HK1.out; have := HJ6.out; omega
                    case rel => exact ⟨(y254), (wrap64 (x4_1 + 1)), (by first | rfl | (simp; done) | (simp [*]; done) | (simp; unfold wrap64; omega) | (congr 1; (try rw [Bool.eq_iff_iff]); simp [List.isEmpty_iff]; done)), H', ⟨by have := HK1.out; have := HJ6.out; omega⟩, ⟨by (with_reducible repeat (first | apply Kd.R_alloc | apply Kd.R_drewN | apply Kd.R_drew)); exact Kd.R_mono HO256.out (fun _ hk => trivial)⟩, ⟨hbT HB.out⟩⟩
                  · rw [if_neg c16] at H
                    exact absurd H (by simp)
                · rw [if_neg c15] at H
                  have c15b0 : ((wrap64 (bt a0 x4_1)) == 10) = false := beq_eq_false_iff_ne.mpr c15
                  have c15b1 : ((wrap64 (bt a0 x4_1)) != 10) = true := bne_iff_ne.mpr c15
                  by_cases c21 : (wrap64 (bt a0 x4_1)) = 9
                  · rw [if_pos c21] at H
                    have c21b0 : ((wrap64 (bt a0 x4_1)) == 9) = true := beq_iff_eq.mpr c21
                    have c21b1 : ((wrap64 (bt a0 x4_1)) != 9) = false := bne_eq_false_iff_eq.mpr c21
                    clear c21
                    obtain ⟨y257, hy257⟩ : ∃ y_ : List Int, y_ = (([92, 116] : List Int)) := ⟨_, rfl⟩
                    replace H : (if x3_1.length + y257.length < 140737488355328 then (refrainref1_quoted.l0 kj6 a0 (x3_1 ++ y257) (wrap64 (x4_1 + 1))) else (none)) = some r := by first | (rw [hy257]; with_reducible exact H) | (have H2_ := (Option.bind_some _ _).symm.trans H; rw [hy257]; with_reducible exact H2_) | (have H2_ := (Option.bind_some _ _).symm.trans H; with_reducible exact H2_) | with_reducible exact H | (rw [hy257]; exact H) | exact H
                    have Ny257 := Aside0.mk hy257
                    clear hy257
                    by_cases c22 : x3_1.length + y257.length < 140737488355328
                    · rw [if_pos c22] at H
                      have LMc22 := Aside0.mk c22
                      clear c22
                      obtain ⟨y260, hy260⟩ : ∃ y_ : List Int, y_ = (x3_1 ++ y257) := ⟨_, rfl⟩
                      replace H : (refrainref1_quoted.l0 kj6 a0 y260 (wrap64 (x4_1 + 1))) = some r := by first | (rw [hy260]; with_reducible exact H) | (have H2_ := (Option.bind_some _ _).symm.trans H; rw [hy260]; with_reducible exact H2_) | (have H2_ := (Option.bind_some _ _).symm.trans H; with_reducible exact H2_) | with_reducible exact H | (rw [hy260]; exact H) | exact H
                      have Ny260 := Aside0.mk hy260
                      clear hy260
                      have H' := Aside0.mk H
                      clear H
                      go_wp2_with (first | ((with_reducible refine gate_dst (N := 48) rfl ?_); refine Kd.R_lit (Kd.int .u8) _ 5 ?hg (N := 48) ?hd (xs := ([92, 116] : List Int)) (inner := [.int .u8 92, .int .u8 116]) (ok := fun _ => True) (okp := fun _ => True) ?hr ?hp (fun _ hk => hk) trivial (Below.refl _ _) (Nat.le_refl _) (by simp) ?_; (case hd => rfl); (case hg => rfl); (case hr => first | (go_simp; done) | (go_simp; rfl)); (case hp => exact (Reps.one (show Kd.M (Kd.int .u8) _ _ _ 92 [.int .u8 92] from rfl) (Reps.one (show Kd.M (Kd.int .u8) _ _ _ 116 [.int .u8 116] from rfl) (Reps.none _ _)))); intro v258 w23 ho24 hb hg_ hnew_; clear hg_ hnew_; (first | rw [← Ny257.out] at ho24 | (simp only [Int.reduceToNat] at ho24; rw [← Ny257.out] at ho24)); have HO259 := Aside0.mk (Kd.R_lower (Kd.R_new' ho24 (Kd.R_lt (by (with_reducible repeat (first | apply Kd.R_alloc | apply Kd.R_drewN | apply Kd.R_drew)); exact HO_3.out))) (below_size (hbT HB.out))); replace HO_3 := Aside0.mk (Kd.R_elder' (by (with_reducible repeat (first | apply Kd.R_alloc | apply Kd.R_drewN | apply Kd.R_drew)); exact HO_3.out) (Kd.R_base ho24) hb); replace HB := bsA HB hb; clear hb ho24; obtain ⟨Ao26, co26, eo26⟩ := Kd.R_slice HO259.out; subst eo26) | ((with_reducible refine gate_builtin (b := .append) (xs := #[.tmp 47, .tmp 48]) rfl ?_); at_builtin; refine Kd.R_append_rows (Kd.int .u8) (w0 := w) w.heap.size rfl (.tmp 47) (.tmp 48) 60 5 (.int .u8 0) 1 rfl Tryz.underlying60 info5 rfl (by decide) (by omega) u3 x3_1 y257 _ _ _ (fun k_ => some k_ ≠ (.slice Ao26 y257.length co26 : Value).ownBlock) (fun _ => False) rfl rfl ?aO ?aR (fun _ _ h => h) (fun _ h => h.elim) ?aF ?aB ?aS ?aL ?_; (case aR => repeat (first | exact (Kd.R_reads' HO259.out).2.2 | (with_reducible refine Kd.C_alloc ?_ _) | (with_reducible refine Kd.C_drewN ?_ _) | (with_reducible refine Kd.C_drew ?_))); (case aB => exact (hbT HB.out)); (case aF => exact (fun k_ hk => Kd.fresh' (Kd.R_lt (by (with_reducible repeat (first | apply Kd.R_alloc | apply Kd.R_drewN | apply Kd.R_drew)); exact HO259.out)) k_ hk)); (case aO => exact (by (with_reducible repeat (first | apply Kd.R_alloc | apply Kd.R_drewN | apply Kd.R_drew)); exact Kd.R_mono HO_3.out (fun _ hk => hk.2))); (case aS => exact (below_size (hbT HB.out))); (case aL => have := LMc22.out; omega); intro v261 w25 ho hb hg hat; rw [← Ny260.out] at ho; have n0_ := Aside0.mk (Kd.R_after (ok := (fun _ => True)) (by (with_reducible repeat (first | apply Kd.R_alloc | apply Kd.R_drewN | apply Kd.R_drew)); exact HO259.out) hg hat); have n1_ := Aside0.mk (hb); have n2_ := Aside0.mk (ho); clear HO259; clear HB; clear HO_3; have HO259 := n0_; have HB := n1_; have HO262 := n2_; clear n0_ n1_ n2_; clear ho hb hg hat))
                      go_roundg kj6
                      case measure => have := HK1.out; have := HJ6.out; omega
                      case rel => exact ⟨(y260), (wrap64 (x4_1 + 1)), (by first | rfl | (simp; done) | (simp [*]; done) | (simp; unfold wrap64; omega) | (congr 1; (try rw [Bool.eq_iff_iff]); simp [List.isEmpty_iff]; done)), H', ⟨by have := HK1.out; have := HJ6.out; omega⟩, ⟨by (with_reducible repeat (first | apply Kd.R_alloc | apply Kd.R_drewN | apply Kd.R_drew)); exact Kd.R_mono HO262.out (fun _ hk => trivial)⟩, ⟨hbT HB.out⟩⟩
                    · rw [if_neg c22] at H
                      exact absurd H (by simp)
                  · rw [if_neg c21] at H
                    have c21b0 : ((wrap64 (bt a0 x4_1)) == 9) = false := beq_eq_false_iff_ne.mpr c21
                    have c21b1 : ((wrap64 (bt a0 x4_1)) != 9) = true := bne_iff_ne.mpr c21
                    have HC27 := Aside0.mk H
                    clear H
                    go_upto_region 13 with (fail)
                    go_cut [50] (fun v50 wc => ∃ (kq : Nat) (x50_26 : Bool), v50 = .bool x50_26 ∧ Aside0 (refrainref1_quoted.j2 kq a0 x3_1 x4_1 (wrap64 (bt a0 x4_1)) x50_26 = some r) ∧ Aside0 (kq ≤ kj6) ∧ Aside0 (Kd.R (Kd.int .u8) 5 wc w.heap.size (fun _ => True) u3 x3_1) ∧ Aside0 (Below w.heap.size w wc))
                    case first =>
                      have H := HC27.out
                      clear HC27
                      by_cases c28 : (wrap64 (bt a0 x4_1)) ≥ 32
                      · rw [if_pos c28] at H
                        have c28b0 : decide (32 ≤ (wrap64 (bt a0 x4_1))) = true := decide_eq_true c28
                        clear c28
                        (first | rw [c28b0] | (simp only [i64_w, i32_w, IntKind.wrap_u8, IntKind.wrap_u16, IntKind.wrap_u32]; rw [c28b0]) | skip)
                        have H' := Aside0.mk H
                        clear H
                        go_wp2
                        go_meet
                        case rel => exact ⟨_, (decide ((wrap64 (bt a0 x4_1)) ≤ 126)), (by first | rfl | (simp; done) | (simp [*]; done) | (simp; unfold wrap64; omega) | (congr 1; (try rw [Bool.eq_iff_iff]); simp [List.isEmpty_iff]; done)), H', ⟨by have := HK1.out; have := HJ6.out; first | omega | exact Nat.le_refl _⟩, ⟨by (with_reducible repeat (first | apply Kd.R_alloc | apply Kd.R_drewN | apply Kd.R_drew)); exact HO_3.out⟩, ⟨hbT HB.out⟩⟩
                      · rw [if_neg c28] at H
                        have c28b0 : decide (32 ≤ (wrap64 (bt a0 x4_1))) = false := decide_eq_false c28
                        clear c28
                        (first | rw [c28b0] | (simp only [i64_w, i32_w, IntKind.wrap_u8, IntKind.wrap_u16, IntKind.wrap_u32]; rw [c28b0]) | skip)
                        have H' := Aside0.mk H
                        clear H
                        go_wp2
                        go_meet
                        case rel => exact ⟨_, (false), (by first | rfl | (simp; done) | (simp [*]; done) | (simp; unfold wrap64; omega) | (congr 1; (try rw [Bool.eq_iff_iff]); simp [List.isEmpty_iff]; done)), H', ⟨by have := HK1.out; have := HJ6.out; first | omega | exact Nat.le_refl _⟩, ⟨by (with_reducible repeat (first | apply Kd.R_alloc | apply Kd.R_drewN | apply Kd.R_drew)); exact HO_3.out⟩, ⟨hbT HB.out⟩⟩
                    case rest =>
                      clear HC27
                      try clear c1
                      try clear c2
                      try clear p2
                      try clear c4
                      try clear c4b0
                      try clear c5
                      try clear c5b0
                      try clear p6
                      try clear q6
                      try clear hx6
                      try clear c8
                      try clear c8b0
                      try clear c8b1
                      try clear c9
                      try clear c10
                      try clear c15
                      try clear c15b0
                      try clear c15b1
                      try clear c16
                      try clear c21
                      try clear c21b0
                      try clear c21b1
                      try clear c22
                      try clear c28
                      try clear c28b0
                      try clear p2
                      try clear p6
                      try clear q6
                      obtain ⟨kq, x50_26, rfl, HA, HJ26, HO_3, HB⟩ := hcut
                      cases kq with
                      | zero => (have HA2 := HA.out; clear HA; revert HA2; rw [refrainref1_quoted.j2_zero]; intro h_; cases h_)
                      | succ kj26 =>
                        have H := HA.out
                        clear HA
                        simp only [refrainref1_quoted.j2] at H
                        by_cases c29 : x50_26 = true
                        · subst c29
                          have H1 : (if x3_1.length < 140737488355328 then (refrainref1_quoted.l0 kj26 a0 (x3_1 ++ [((wrap64 (bt a0 x4_1))) % 256]) (wrap64 (x4_1 + 1))) else (none)) = some r := by rw [if_pos rfl] at H; exact H
                          clear H
                          have H := H1
                          clear H1
                          by_cases c30 : x3_1.length < 140737488355328
                          · rw [if_pos c30] at H
                            have LMc30 := Aside0.mk c30
                            clear c30
                            obtain ⟨y263, hy263⟩ : ∃ y_ : List Int, y_ = (x3_1 ++ [((wrap64 (bt a0 x4_1))) % 256]) := ⟨_, rfl⟩
                            replace H : (refrainref1_quoted.l0 kj26 a0 y263 (wrap64 (x4_1 + 1))) = some r := by first | (rw [hy263]; with_reducible exact H) | (have H2_ := (Option.bind_some _ _).symm.trans H; rw [hy263]; with_reducible exact H2_) | (have H2_ := (Option.bind_some _ _).symm.trans H; with_reducible exact H2_) | with_reducible exact H | (rw [hy263]; exact H) | exact H
                            have Ny263 := Aside0.mk hy263
                            clear hy263
                            have H' := Aside0.mk H
                            clear H
                            go_wp2_with (first | ((with_reducible refine gate_builtin (b := .append) (xs := #[.tmp 57, .tmp 60]) rfl ?_); at_builtin; refine Kd.R_append (Kd.int .u8) (w0 := w) w.heap.size rfl (.tmp 57) (.tmp 60) 60 5 (.int .u8 0) 1 rfl Tryz.underlying60 info5 rfl (by decide) (by omega) u3 x3_1 (((wrap64 (bt a0 x4_1))) % 256) [.int .u8 (((wrap64 (bt a0 x4_1))) % 256)] (fun _ => True) (fun _ => False) rfl rfl ?aP (fun _ hk => hk.elim) ?aF ?aO ?aB ?aS ?aL ?_; (case aP => exact rfl); (case aB => exact (hbT HB.out)); (case aF => exact (fun _ _ => trivial)); (case aO => exact (by (with_reducible repeat (first | apply Kd.R_alloc | apply Kd.R_drewN | apply Kd.R_drew)); exact HO_3.out)); (case aS => exact (below_size (hbT HB.out))); (case aL => have := LMc30.out; omega); intro v264 w31 ho hb hg hat; rw [← Ny263.out] at ho; have n0_ := Aside0.mk (hb); have n1_ := Aside0.mk (ho); clear HB; clear HO_3; have HB := n0_; have HO265 := n1_; clear n0_ n1_; clear ho hb hg hat))
                            go_roundg kj26
                            case measure => have := HK1.out; have := HJ6.out; have := HJ26.out; omega
                            case rel => exact ⟨(y263), (wrap64 (x4_1 + 1)), (by first | rfl | (simp; done) | (simp [*]; done) | (simp; unfold wrap64; omega) | (congr 1; (try rw [Bool.eq_iff_iff]); simp [List.isEmpty_iff]; done)), H', ⟨by have := HK1.out; have := HJ6.out; have := HJ26.out; omega⟩, ⟨by (with_reducible repeat (first | apply Kd.R_alloc | apply Kd.R_drewN | apply Kd.R_drew)); exact HO265.out⟩, ⟨hbT HB.out⟩⟩
                          · rw [if_neg c30] at H
                            exact absurd H (by simp)
                        · replace c29 := Bool.eq_false_iff.mpr c29
                          subst c29
                          have H1 : ((refrainref1_Hex.f (wrap64 (Int.tdiv (wrap64 (bt a0 x4_1)) 16))).bind fun t266 => ((refrainref1_Hex.f (Int.tmod (wrap64 (bt a0 x4_1)) 16)).bind fun t267 => ((some (([92, 120, t266, t267] : List Int) : List Int)).bind fun y268 => (if x3_1.length + y268.length < 140737488355328 then (refrainref1_quoted.l0 kj26 a0 (x3_1 ++ y268) (wrap64 (x4_1 + 1))) else (none))))) = some r := by rw [if_neg (show ¬ (false = true) by decide)] at H; exact H
                          clear H
                          have H := H1
                          clear H1
                          replace H := Option.bind_eq_some_iff.mp H
                          obtain ⟨t266, A320, H⟩ := H
                          replace H : ((refrainref1_Hex.f (Int.tmod (wrap64 (bt a0 x4_1)) 16)).bind fun t267 => ((some (([92, 120, t266, t267] : List Int) : List Int)).bind fun y268 => (if x3_1.length + y268.length < 140737488355328 then (refrainref1_quoted.l0 kj26 a0 (x3_1 ++ y268) (wrap64 (x4_1 + 1))) else (none)))) = some r := H
                          have A32 := Aside0.mk A320
                          clear A320
                          replace H := Option.bind_eq_some_iff.mp H
                          obtain ⟨t267, A330, H⟩ := H
                          replace H : ((some (([92, 120, t266, t267] : List Int) : List Int)).bind fun y268 => (if x3_1.length + y268.length < 140737488355328 then (refrainref1_quoted.l0 kj26 a0 (x3_1 ++ y268) (wrap64 (x4_1 + 1))) else (none))) = some r := H
                          have A33 := Aside0.mk A330
                          clear A330
                          obtain ⟨y268, hy268⟩ : ∃ y_ : List Int, y_ = (([92, 120, t266, t267] : List Int)) := ⟨_, rfl⟩
                          replace H : (if x3_1.length + y268.length < 140737488355328 then (refrainref1_quoted.l0 kj26 a0 (x3_1 ++ y268) (wrap64 (x4_1 + 1))) else (none)) = some r := by first | (rw [hy268]; with_reducible exact H) | (have H2_ := (Option.bind_some _ _).symm.trans H; rw [hy268]; with_reducible exact H2_) | (have H2_ := (Option.bind_some _ _).symm.trans H; with_reducible exact H2_) | with_reducible exact H | (rw [hy268]; exact H) | exact H
                          have Ny268 := Aside0.mk hy268
                          clear hy268
                          by_cases c34 : x3_1.length + y268.length < 140737488355328
                          · rw [if_pos c34] at H
                            have LMc34 := Aside0.mk c34
                            clear c34
                            obtain ⟨y271, hy271⟩ : ∃ y_ : List Int, y_ = (x3_1 ++ y268) := ⟨_, rfl⟩
                            replace H : (refrainref1_quoted.l0 kj26 a0 y271 (wrap64 (x4_1 + 1))) = some r := by first | (rw [hy271]; with_reducible exact H) | (have H2_ := (Option.bind_some _ _).symm.trans H; rw [hy271]; with_reducible exact H2_) | (have H2_ := (Option.bind_some _ _).symm.trans H; with_reducible exact H2_) | with_reducible exact H | (rw [hy271]; exact H) | exact H
                            have Ny271 := Aside0.mk hy271
                            clear hy271
                            have H' := Aside0.mk H
                            clear H
                            go_wp2_with (first | ((with_reducible refine gate_callee (f := 55) rfl ?_); refine goesT (some 20) Tryz.func55 #[.int .i64 (wrap64 (Int.tdiv (wrap64 (bt a0 x4_1)) 16))] ?_; (with_reducible refine (refrainref1_Hex.calls (wrap64 (Int.tdiv (wrap64 (bt a0 x4_1)) 16)) t266 _ A32.out).mono ?_); rintro e w' ⟨rfl, ⟨nd, rfl⟩⟩; refine ⟨_, rfl, ?_⟩) | ((with_reducible refine gate_callee (f := 55) rfl ?_); refine goesT (some 23) Tryz.func55 #[.int .i64 (Int.tmod (wrap64 (bt a0 x4_1)) 16)] ?_; (with_reducible refine (refrainref1_Hex.calls (Int.tmod (wrap64 (bt a0 x4_1)) 16) t267 _ A33.out).mono ?_); rintro e w' ⟨rfl, ⟨nd, rfl⟩⟩; refine ⟨_, rfl, ?_⟩) | ((with_reducible refine gate_dst (N := 24) rfl ?_); refine Kd.R_lit (Kd.int .u8) _ 5 ?hg (N := 24) ?hd (xs := ([92, 120, t266, t267] : List Int)) (inner := [.int .u8 92, .int .u8 120, .int .u8 t266, .int .u8 t267]) (ok := fun _ => True) (okp := fun _ => True) ?hr ?hp (fun _ hk => hk) trivial (Below.refl _ _) (Nat.le_refl _) (by simp) ?_; (case hd => rfl); (case hg => rfl); (case hr => first | (go_simp; done) | (go_simp; rfl)); (case hp => exact (Reps.one (show Kd.M (Kd.int .u8) _ _ _ 92 [.int .u8 92] from rfl) (Reps.one (show Kd.M (Kd.int .u8) _ _ _ 120 [.int .u8 120] from rfl) (Reps.one (show Kd.M (Kd.int .u8) _ _ _ t266 [.int .u8 t266] from rfl) (Reps.one (show Kd.M (Kd.int .u8) _ _ _ t267 [.int .u8 t267] from rfl) (Reps.none _ _)))))); intro v269 w35 ho36 hb hg_ hnew_; clear hg_ hnew_; (first | rw [← Ny268.out] at ho36 | (simp only [Int.reduceToNat] at ho36; rw [← Ny268.out] at ho36)); have HO270 := Aside0.mk (Kd.R_lower (Kd.R_new' ho36 (Kd.R_lt (by (with_reducible repeat (first | apply Kd.R_alloc | apply Kd.R_drewN | apply Kd.R_drew)); exact HO_3.out))) (below_size (hbT HB.out))); replace HO_3 := Aside0.mk (Kd.R_elder' (by (with_reducible repeat (first | apply Kd.R_alloc | apply Kd.R_drewN | apply Kd.R_drew)); exact HO_3.out) (Kd.R_base ho36) hb); replace HB := bsA HB hb; clear hb ho36; obtain ⟨Ao38, co38, eo38⟩ := Kd.R_slice HO270.out; subst eo38) | ((with_reducible refine gate_builtin (b := .append) (xs := #[.tmp 17, .tmp 24]) rfl ?_); at_builtin; refine Kd.R_append_rows (Kd.int .u8) (w0 := w) w.heap.size rfl (.tmp 17) (.tmp 24) 60 5 (.int .u8 0) 1 rfl Tryz.underlying60 info5 rfl (by decide) (by omega) u3 x3_1 y268 _ _ _ (fun k_ => some k_ ≠ (.slice Ao38 y268.length co38 : Value).ownBlock) (fun _ => False) rfl rfl ?aO ?aR (fun _ _ h => h) (fun _ h => h.elim) ?aF ?aB ?aS ?aL ?_; (case aR => repeat (first | exact (Kd.R_reads' HO270.out).2.2 | (with_reducible refine Kd.C_alloc ?_ _) | (with_reducible refine Kd.C_drewN ?_ _) | (with_reducible refine Kd.C_drew ?_))); (case aB => exact (hbT HB.out)); (case aF => exact (fun k_ hk => Kd.fresh' (Kd.R_lt (by (with_reducible repeat (first | apply Kd.R_alloc | apply Kd.R_drewN | apply Kd.R_drew)); exact HO270.out)) k_ hk)); (case aO => exact (by (with_reducible repeat (first | apply Kd.R_alloc | apply Kd.R_drewN | apply Kd.R_drew)); exact Kd.R_mono HO_3.out (fun _ hk => hk.2))); (case aS => exact (below_size (hbT HB.out))); (case aL => have := LMc34.out; omega); intro v272 w37 ho hb hg hat; rw [← Ny271.out] at ho; have n0_ := Aside0.mk (Kd.R_after (ok := (fun _ => True)) (by (with_reducible repeat (first | apply Kd.R_alloc | apply Kd.R_drewN | apply Kd.R_drew)); exact HO270.out) hg hat); have n1_ := Aside0.mk (hb); have n2_ := Aside0.mk (ho); clear HO270; clear HB; clear HO_3; have HO270 := n0_; have HB := n1_; have HO273 := n2_; clear n0_ n1_ n2_; clear ho hb hg hat))
                            go_roundg kj26
                            case measure => have := HK1.out; have := HJ6.out; have := HJ26.out; omega
                            case rel => exact ⟨(y271), (wrap64 (x4_1 + 1)), (by first | rfl | (simp; done) | (simp [*]; done) | (simp; unfold wrap64; omega) | (congr 1; (try rw [Bool.eq_iff_iff]); simp [List.isEmpty_iff]; done)), H', ⟨by have := HK1.out; have := HJ6.out; have := HJ26.out; omega⟩, ⟨by (with_reducible repeat (first | apply Kd.R_alloc | apply Kd.R_drewN | apply Kd.R_drew)); exact Kd.R_mono HO273.out (fun _ hk => trivial)⟩, ⟨hbT HB.out⟩⟩
                          · rw [if_neg c34] at H
                            exact absurd H (by simp)
        · rw [if_neg c5] at H
          exact absurd H (by simp)
      · rw [if_neg c4] at H
        have c4b0 : decide (x4_1 < (a0.size : Int)) = false := decide_eq_false c4
        clear c4
        by_cases c39 : x3_1.length < 140737488355328
        · rw [if_pos c39] at H
          have LMc39 := Aside0.mk c39
          clear c39
          obtain ⟨y242, hy242⟩ : ∃ y_ : List Int, y_ = (x3_1 ++ [34]) := ⟨_, rfl⟩
          replace H : (some (strOfNums y242)) = some r := by first | (rw [hy242]; with_reducible exact H) | (have H2_ := (Option.bind_some _ _).symm.trans H; rw [hy242]; with_reducible exact H2_) | (have H2_ := (Option.bind_some _ _).symm.trans H; with_reducible exact H2_) | with_reducible exact H | (rw [hy242]; exact H) | exact H
          have Ny242 := Aside0.mk hy242
          clear hy242
          obtain rfl := Option.some.inj H
          go_wp2_with (first | ((with_reducible refine gate_builtin (b := .append) (xs := #[.tmp 62, .tmp 63]) rfl ?_); at_builtin; refine Kd.R_append (Kd.int .u8) (w0 := w) w.heap.size rfl (.tmp 62) (.tmp 63) 60 5 (.int .u8 0) 1 rfl Tryz.underlying60 info5 rfl (by decide) (by omega) u3 x3_1 34 [.int .u8 34] (fun _ => True) (fun _ => False) rfl rfl ?aP (fun _ hk => hk.elim) ?aF ?aO ?aB ?aS ?aL ?_; (case aP => exact rfl); (case aB => exact (hbT HB.out)); (case aF => exact (fun _ _ => trivial)); (case aO => exact (by (with_reducible repeat (first | apply Kd.R_alloc | apply Kd.R_drewN | apply Kd.R_drew)); exact HO_3.out)); (case aS => exact (below_size (hbT HB.out))); (case aL => have := LMc39.out; omega); intro v243 w40 ho hb hg hat; rw [← Ny242.out] at ho; have n0_ := Aside0.mk (hb); have n1_ := Aside0.mk (ho); clear HB; clear HO_3; have HB := n0_; have HO244 := n1_; clear n0_ n1_; clear ho hb hg hat; have hcv41 := own_string (P := Tryz.prog) Tryz.underlying60 Tryz.underlying5 Tryz.underlying9 (Kd.own_of_R HO244.out)))
          go_ret
          exact ⟨by first | rfl | (simp [errW_none, errW_some] <;> rfl) | (simp [*, errW_none, errW_some] <;> rfl), hbT HB.out⟩
        · rw [if_neg c39] at H
          exact absurd H (by simp)

end Go.Proofs.YthhpeeckiggpaaaGreatDoor.Pr

-- printed by a patched copy of the kit's print, for this seat
import Derived.Test.YthhpeeckiggpaaaDoorPrx0
import Derived.Test.YthhpeeckiggpaaaDoorPrx2
import Derived.Test.YthhpeeckiggpaaaDoorPrx3
import Derived.Test.YthhpeeckiggpaaaDoorPrx4
import Derived.Test.YthhpeeckiggpaaaDoorExtPI
import Derived.Test.YthhpeeckiggpaaaDoorExtV1
namespace Go.Proofs.YthhpeeckiggpaaaDoor.Pr
open Go.RowKit Go.Proofs.YthhpeeckiggpaaaDoorW.PrintWords Go.Proofs.YthhpeeckiggpaaaDoorW.PrintLast Go.Proofs.YthhpeeckiggpaaaDoorW.PrintMore
attribute [local go_sem] max2_int min2_int max_two min_two max_three min_three max_four min_four   -- for this text's walks alone
attribute [local go_sem high] Go.Proofs.YthhpeeckiggpaaaDoor.isSome_setCell
set_option maxRecDepth 100000
set_option linter.unusedVariables false
set_option linter.unusedSimpArgs false

/-! ### value_guess: function 35 -/
def value_guess.j0 : Nat → ByteArray → Bool → Option (Int × Int × ByteArray × Bool × Bool)
  | 0, _, _ => none
  | k + 1, x0, x8 => if x8 = true then ((value_truth.f (x0.toList == ([84, 82, 85, 69] : List UInt8))).bind fun bt137 => (some (bt137.1, bt137.2.1, bt137.2.2.1, bt137.2.2.2, true))) else ((strings_HasPrefix.f x0 (⟨#[34]⟩ : ByteArray)).bind fun t141 => (if t141 = true then ((value_unquoted.f k x0).bind fun bt142 => ((value_text.f bt142.1).bind fun bt144 => (some (bt144.1, bt144.2.1, bt144.2.2.1, bt144.2.2.2, bt142.2)))) else ((strconv_ParseInt.f x0 10 64).bind fun bt148 => ((value_number.f bt148.1).bind fun bt150 => (if bt148.2.isNone = true then (some (bt150.1, bt150.2.1, bt150.2.2.1, bt150.2.2.2, true)) else (some (bt150.1, bt150.2.1, bt150.2.2.1, bt150.2.2.2, false)))))))
def value_guess.f (k : Nat) (a0 : ByteArray) : Option (Int × Int × ByteArray × Bool × Bool) := if a0.toList = ([84, 82, 85, 69] : List UInt8) then (value_guess.j0 k a0 true) else (value_guess.j0 k a0 (a0.toList == ([70, 65, 76, 83, 69] : List UInt8)))
set_option maxRecDepth 100000 in
theorem value_guess.j0_zero : ∀ y0 y1, value_guess.j0 0 y0 y1 = none := fun _ _ => rfl
set_option maxRecDepth 100000 in
theorem value_guess.mono_l : ∀ k, (∀ y0 y1, LeO (value_guess.j0 k y0 y1) (value_guess.j0 (k + 1) y0 y1))
  | 0 => fun _ _ r h => by (unfold value_guess.j0 at h; cases h)
  | k + 1 => by
    have ih0 := value_guess.mono_l k
    · intro y0 y1
      unfold value_guess.j0
      repeat' first
      | (with_reducible exact ih0 _ _)
      | (with_reducible exact value_unquoted.mono _ _)
      | (with_reducible exact LeO.refl _)
      | (with_reducible exact LeO.none _)
      | (with_reducible refine LeO.ite ?_ ?_)
      | (with_reducible refine LeO.bind ?_ (fun _ => ?_))
      | exact ih0 _ _
      | exact value_unquoted.mono _ _
      | exact LeO.none _
      | refine LeO.ite ?_ ?_
      | refine LeO.bind ?_ (fun _ => ?_)
set_option maxRecDepth 100000 in
theorem value_guess.mono : ∀ a0 k, LeO (value_guess.f k a0) (value_guess.f (k + 1) a0) := by
  intro a0 k
  have ih0 := value_guess.mono_l k
  unfold value_guess.f
  repeat' first
      | (with_reducible exact ih0 _ _)
      | (with_reducible exact value_unquoted.mono _ _)
      | (with_reducible exact LeO.refl _)
      | (with_reducible exact LeO.none _)
      | (with_reducible refine LeO.ite ?_ ?_)
      | (with_reducible refine LeO.bind ?_ (fun _ => ?_))
      | exact ih0 _ _
      | exact value_unquoted.mono _ _
      | exact LeO.none _
      | refine LeO.ite ?_ ?_
      | refine LeO.bind ?_ (fun _ => ?_)
set_option maxHeartbeats 8000000 in
set_option maxRecDepth 100000 in
theorem value_guess.calls (k : Nat) (a0 : ByteArray) (r1 : Int) (r2 : Int) (r3 : ByteArray) (r4 : Bool) (r5 : Bool) (w : World) (HL_LErr : Aside0 (LErr w)) (HL_LSyn : Aside0 (LSyn w)) (h : value_guess.f k a0 = some (r1, r2, r3, r4, r5)) :
    Calls Tryd.prog 35 #[.string a0] w fun e w' => e = .returned (.tuple #[.agg #[.int .i64 r1, .int .i64 r2, .string r3, .bool r4], .bool r5]) ∧ Below w.heap.size w w' := by
  have hu26 := Tryd.underlying26
  have hu74 := Tryd.underlying74
  have HB := Aside0.mk (Below.refl w.heap.size w)
  have H : (if a0.toList = ([84, 82, 85, 69] : List UInt8) then (value_guess.j0 k a0 true) else (value_guess.j0 k a0 (a0.toList == ([70, 65, 76, 83, 69] : List UInt8)))) = some (r1, r2, r3, r4, r5) := h
  clear h
  have HC2 := Aside0.mk H
  clear H
  go_enter Tryd.func35, Tryd.ntmps35
  go_upto_region 1 with (first | ((with_reducible refine gate_dst (N := 2) rfl ?_); refine box_event ?hg (N := 2) ?hd (cs := #[.int .i64 0, .int .i64 0, .string (⟨#[]⟩ : ByteArray), .bool false]) (t := 26) ?hr ?_; (case hd => rfl); (case hg => rfl); (case hr => first | (go_simp; done) | (go_simp; rfl)); intro gb136 hg w3 hbox hb; have BK136 := Aside0.mk hbox; have GW136 := geA hg HB; have GE136 := geA hg HB; replace HB := bsA HB hb; clear hb hbox hg))
  (try simp only [Act.put, List.setIfInBounds_toArray, List.set_cons_zero, List.set_cons_succ])
  go_cut [8] (fun v8 wc => ∃ (kq : Nat) (x8_1 : Bool), v8 = .bool x8_1 ∧ Aside0 (value_guess.j0 kq a0 x8_1 = some (r1, r2, r3, r4, r5)) ∧ Aside0 (kq ≤ k) ∧ Aside0 (wc.heap[gb136]? = some (.cells #[.int .i64 0, .int .i64 0, .string (⟨#[]⟩ : ByteArray), .bool false] 26 (0, 0))) ∧ Aside0 (Below w.heap.size w wc))
  case first =>
    have H := HC2.out
    clear HC2
    by_cases c4 : a0.toList = ([84, 82, 85, 69] : List UInt8)
    · rw [if_pos c4] at H
      have c4b0 : (a0.toList == ([84, 82, 85, 69] : List UInt8)) = true := beq_iff_eq.mpr c4
      have c4b1 : (a0.toList != ([84, 82, 85, 69] : List UInt8)) = false := bne_eq_false_iff_eq.mpr c4
      clear c4
      (first | rw [c4b0] | (simp only [i64_w, i32_w, IntKind.wrap_u8, IntKind.wrap_u16, IntKind.wrap_u32]; rw [c4b0]) | skip)
      have H' := Aside0.mk H
      clear H
      go_wp2
      go_meet
      case rel => exact ⟨_, (true), (by first | rfl | (simp; done) | (simp [*]; done) | (simp; unfold wrap64; omega) | (congr 1; (try rw [Bool.eq_iff_iff]); simp [List.isEmpty_iff]; done)), H', ⟨by first | omega | exact Nat.le_refl _⟩, ⟨bkT BK136.out⟩, ⟨hbT HB.out⟩⟩
    · rw [if_neg c4] at H
      have c4b0 : (a0.toList == ([84, 82, 85, 69] : List UInt8)) = false := beq_eq_false_iff_ne.mpr c4
      have c4b1 : (a0.toList != ([84, 82, 85, 69] : List UInt8)) = true := bne_iff_ne.mpr c4
      (first | rw [c4b0] | (simp only [i64_w, i32_w, IntKind.wrap_u8, IntKind.wrap_u16, IntKind.wrap_u32]; rw [c4b0]) | skip)
      have H' := Aside0.mk H
      clear H
      go_wp2
      go_meet
      case rel => exact ⟨_, ((a0.toList == ([70, 65, 76, 83, 69] : List UInt8))), (by first | rfl | (simp; done) | (simp [*]; done) | (simp; unfold wrap64; omega) | (congr 1; (try rw [Bool.eq_iff_iff]); simp [List.isEmpty_iff]; done)), H', ⟨by first | omega | exact Nat.le_refl _⟩, ⟨bkT BK136.out⟩, ⟨hbT HB.out⟩⟩
  case rest =>
    clear HC2
    try clear p2
    try clear c3
    try clear c4
    try clear c4b0
    try clear c4b1
    obtain ⟨kq, x8_1, rfl, HA, HJ1, BK136, HB⟩ := hcut
    cases kq with
    | zero => (have HA2 := HA.out; clear HA; revert HA2; rw [value_guess.j0_zero]; intro h_; cases h_)
    | succ kj1 =>
      have H := HA.out
      clear HA
      simp only [value_guess.j0] at H
      by_cases c5 : x8_1 = true
      · subst c5
        have H1 : ((value_truth.f (a0.toList == ([84, 82, 85, 69] : List UInt8))).bind fun bt137 => (some (bt137.1, bt137.2.1, bt137.2.2.1, bt137.2.2.2, true))) = some (r1, r2, r3, r4, r5) := by rw [if_pos rfl] at H; exact H
        clear H
        have H := H1
        clear H1
        replace H := Option.bind_eq_some_iff.mp H
        obtain ⟨⟨t137, t138, t139, t140⟩, A60, H⟩ := H
        replace H : (some (t137, t138, t139, t140, true)) = some (r1, r2, r3, r4, r5) := H
        have A6 := Aside0.mk A60
        clear A60
        simp only [Option.some.injEq, Prod.mk.injEq] at H
        obtain ⟨rfl, rfl, rfl, rfl, rfl⟩ := H
        go_wp2_with (first | ((with_reducible refine gate_callee (f := 28) rfl ?_); refine goesT (some 17) Tryd.func28 #[.bool (a0.toList == ([84, 82, 85, 69] : List UInt8))] ?_; (with_reducible refine (value_truth.calls (a0.toList == ([84, 82, 85, 69] : List UInt8)) t137 t138 t139 t140 _ A6.out).mono ?_); rintro e w7 ⟨rfl, hb⟩; refine ⟨_, rfl, ?_⟩; replace BK136 := bbA BK136 hb; replace HB := bsA HB hb; (try clear hb); (try clear hb2); (try clear hk); (try clear hi); have hcz8_0 : w7.cell? ⟨gb136, 0, none⟩ = some (.int .i64 0) := (blk_cell BK136.out 0).trans rfl; have hcz8_1 : w7.cell? ⟨gb136, 1, none⟩ = some (.int .i64 0) := (blk_cell BK136.out 1).trans rfl; have hcz8_2 : w7.cell? ⟨gb136, 2, none⟩ = some (.string (⟨#[]⟩ : ByteArray)) := (blk_cell BK136.out 2).trans rfl; have hcz8_3 : w7.cell? ⟨gb136, 3, none⟩ = some (.bool false) := (blk_cell BK136.out 3).trans rfl; have hfz8_0 := blk_frozen BK136.out 0; have hfz8_1 := blk_frozen BK136.out 1; have hfz8_2 := blk_frozen BK136.out 2; have hfz8_3 := blk_frozen BK136.out 3))
        refine bodyPost_ret (results_ct rfl _ _ gb136 26 #[.int .i64 t137, .int .i64 t138, .string t139, .bool t140] (0, 0) _ rfl (by (with_reducible repeat (first | refine blk_drewN ?_ _ | refine blk_drew ?_ | refine blk_alloc ?_ _)); refine blk_put (cs := #[.int .i64 t137, .int .i64 t138, .string t139, .bool false]) ?_ 3 _ rfl; (with_reducible repeat (first | refine blk_drewN ?_ _ | refine blk_drew ?_ | refine blk_alloc ?_ _)); refine blk_put (cs := #[.int .i64 t137, .int .i64 t138, .string (⟨#[]⟩ : ByteArray), .bool false]) ?_ 2 _ rfl; (with_reducible repeat (first | refine blk_drewN ?_ _ | refine blk_drew ?_ | refine blk_alloc ?_ _)); refine blk_put (cs := #[.int .i64 t137, .int .i64 0, .string (⟨#[]⟩ : ByteArray), .bool false]) ?_ 1 _ rfl; (with_reducible repeat (first | refine blk_drewN ?_ _ | refine blk_drew ?_ | refine blk_alloc ?_ _)); refine blk_put (cs := #[.int .i64 0, .int .i64 0, .string (⟨#[]⟩ : ByteArray), .bool false]) ?_ 0 _ rfl; (with_reducible repeat (first | refine blk_drewN ?_ _ | refine blk_drew ?_ | refine blk_alloc ?_ _)); exact BK136.out) Tryd.underlying26 rfl (by kernel_rfl)) rfl ?_
        exact ⟨by first | rfl | (simp [errW_none, errW_some] <;> rfl) | (simp [*, errW_none, errW_some] <;> rfl), hbT HB.out⟩
      · replace c5 := Bool.eq_false_iff.mpr c5
        subst c5
        have H1 : ((strings_HasPrefix.f a0 (⟨#[34]⟩ : ByteArray)).bind fun t141 => (if t141 = true then ((value_unquoted.f kj1 a0).bind fun bt142 => ((value_text.f bt142.1).bind fun bt144 => (some (bt144.1, bt144.2.1, bt144.2.2.1, bt144.2.2.2, bt142.2)))) else ((strconv_ParseInt.f a0 10 64).bind fun bt148 => ((value_number.f bt148.1).bind fun bt150 => (if bt148.2.isNone = true then (some (bt150.1, bt150.2.1, bt150.2.2.1, bt150.2.2.2, true)) else (some (bt150.1, bt150.2.1, bt150.2.2.1, bt150.2.2.2, false))))))) = some (r1, r2, r3, r4, r5) := by rw [if_neg (show ¬ (false = true) by decide)] at H; exact H
        clear H
        have H := H1
        clear H1
        replace H := Option.bind_eq_some_iff.mp H
        obtain ⟨t141, A90, H⟩ := H
        replace H : (if t141 = true then ((value_unquoted.f kj1 a0).bind fun bt142 => ((value_text.f bt142.1).bind fun bt144 => (some (bt144.1, bt144.2.1, bt144.2.2.1, bt144.2.2.2, bt142.2)))) else ((strconv_ParseInt.f a0 10 64).bind fun bt148 => ((value_number.f bt148.1).bind fun bt150 => (if bt148.2.isNone = true then (some (bt150.1, bt150.2.1, bt150.2.2.1, bt150.2.2.2, true)) else (some (bt150.1, bt150.2.1, bt150.2.2.1, bt150.2.2.2, false)))))) = some (r1, r2, r3, r4, r5) := H
        have A9 := Aside0.mk A90
        clear A90
        by_cases c10 : t141 = true
        · subst c10
          have H1 : ((value_unquoted.f kj1 a0).bind fun bt142 => ((value_text.f bt142.1).bind fun bt144 => (some (bt144.1, bt144.2.1, bt144.2.2.1, bt144.2.2.2, bt142.2)))) = some (r1, r2, r3, r4, r5) := by rw [if_pos rfl] at H; exact H
          clear H
          have H := H1
          clear H1
          replace H := Option.bind_eq_some_iff.mp H
          obtain ⟨⟨t142, t143⟩, A110, H⟩ := H
          replace H : ((value_text.f t142).bind fun bt144 => (some (bt144.1, bt144.2.1, bt144.2.2.1, bt144.2.2.2, t143))) = some (r1, r2, r3, r4, r5) := H
          have A11 := Aside0.mk A110
          clear A110
          replace H := Option.bind_eq_some_iff.mp H
          obtain ⟨⟨t144, t145, t146, t147⟩, A120, H⟩ := H
          replace H : (some (t144, t145, t146, t147, t143)) = some (r1, r2, r3, r4, r5) := H
          have A12 := Aside0.mk A120
          clear A120
          simp only [Option.some.injEq, Prod.mk.injEq] at H
          obtain ⟨rfl, rfl, rfl, rfl, rfl⟩ := H
          go_wp2_with (first | ((with_reducible refine gate_callee (f := 60) rfl ?_); refine goesT (some 20) Tryd.func60 #[.string a0, .string (⟨#[34]⟩ : ByteArray)] ?_; (with_reducible refine (strings_HasPrefix.calls a0 (⟨#[34]⟩ : ByteArray) true _ A9.out).mono ?_); rintro e w' ⟨rfl, ⟨nd, rfl⟩⟩; refine ⟨_, rfl, ?_⟩; (try (rw [drewN_self wc]; generalize hq_ : World.drewN wc _ = wc; have n0_ : Aside0 (wc.heap[gb136]? = some (.cells #[.int .i64 0, .int .i64 0, .string (⟨#[]⟩ : ByteArray), .bool false] 26 (0, 0))) := ⟨by rw [← hq_]; exact (bkT BK136.out)⟩; have n1_ : Aside0 (Below w.heap.size w wc) := ⟨by rw [← hq_]; exact (hbT HB.out)⟩; clear BK136 HB hq_; have BK136 := n0_; have HB := n1_; clear n0_ n1_))) | ((with_reducible refine gate_callee (f := 61) rfl ?_); refine goesT (some 23) Tryd.func61 #[.string a0] ?_; (with_reducible refine (value_unquoted.calls kj1 a0 t142 t143 _ ?side1 A11.out).mono ?_); (case side1 => first | (with_reducible exact HL_LSyn) | exact ⟨LSyn.below HL_LSyn.out (hbT HB.out)⟩); rintro e w13 ⟨rfl, hb⟩; refine ⟨_, rfl, ?_⟩; replace BK136 := bbA BK136 hb; replace HB := bsA HB hb; (try clear hb); (try clear hb2); (try clear hk); (try clear hi)) | ((with_reducible refine gate_callee (f := 27) rfl ?_); refine goesT (some 27) Tryd.func27 #[.string t142] ?_; (with_reducible refine (value_text.calls t142 t144 t145 t146 t147 _ A12.out).mono ?_); rintro e w14 ⟨rfl, hb⟩; refine ⟨_, rfl, ?_⟩; replace BK136 := bbA BK136 hb; replace HB := bsA HB hb; (try clear hb); (try clear hb2); (try clear hk); (try clear hi); have hcz15_0 : w14.cell? ⟨gb136, 0, none⟩ = some (.int .i64 0) := (blk_cell BK136.out 0).trans rfl; have hcz15_1 : w14.cell? ⟨gb136, 1, none⟩ = some (.int .i64 0) := (blk_cell BK136.out 1).trans rfl; have hcz15_2 : w14.cell? ⟨gb136, 2, none⟩ = some (.string (⟨#[]⟩ : ByteArray)) := (blk_cell BK136.out 2).trans rfl; have hcz15_3 : w14.cell? ⟨gb136, 3, none⟩ = some (.bool false) := (blk_cell BK136.out 3).trans rfl; have hfz15_0 := blk_frozen BK136.out 0; have hfz15_1 := blk_frozen BK136.out 1; have hfz15_2 := blk_frozen BK136.out 2; have hfz15_3 := blk_frozen BK136.out 3))
          refine bodyPost_ret (results_ct rfl _ _ gb136 26 #[.int .i64 t144, .int .i64 t145, .string t146, .bool t147] (0, 0) _ rfl (by (with_reducible repeat (first | refine blk_drewN ?_ _ | refine blk_drew ?_ | refine blk_alloc ?_ _)); refine blk_put (cs := #[.int .i64 t144, .int .i64 t145, .string t146, .bool false]) ?_ 3 _ rfl; (with_reducible repeat (first | refine blk_drewN ?_ _ | refine blk_drew ?_ | refine blk_alloc ?_ _)); refine blk_put (cs := #[.int .i64 t144, .int .i64 t145, .string (⟨#[]⟩ : ByteArray), .bool false]) ?_ 2 _ rfl; (with_reducible repeat (first | refine blk_drewN ?_ _ | refine blk_drew ?_ | refine blk_alloc ?_ _)); refine blk_put (cs := #[.int .i64 t144, .int .i64 0, .string (⟨#[]⟩ : ByteArray), .bool false]) ?_ 1 _ rfl; (with_reducible repeat (first | refine blk_drewN ?_ _ | refine blk_drew ?_ | refine blk_alloc ?_ _)); refine blk_put (cs := #[.int .i64 0, .int .i64 0, .string (⟨#[]⟩ : ByteArray), .bool false]) ?_ 0 _ rfl; (with_reducible repeat (first | refine blk_drewN ?_ _ | refine blk_drew ?_ | refine blk_alloc ?_ _)); exact BK136.out) Tryd.underlying26 rfl (by kernel_rfl)) rfl ?_
          exact ⟨by first | rfl | (simp [errW_none, errW_some] <;> rfl) | (simp [*, errW_none, errW_some] <;> rfl), hbT HB.out⟩
        · replace c10 := Bool.eq_false_iff.mpr c10
          subst c10
          have H1 : ((strconv_ParseInt.f a0 10 64).bind fun bt148 => ((value_number.f bt148.1).bind fun bt150 => (if bt148.2.isNone = true then (some (bt150.1, bt150.2.1, bt150.2.2.1, bt150.2.2.2, true)) else (some (bt150.1, bt150.2.1, bt150.2.2.1, bt150.2.2.2, false))))) = some (r1, r2, r3, r4, r5) := by rw [if_neg (show ¬ (false = true) by decide)] at H; exact H
          clear H
          have H := H1
          clear H1
          replace H := Option.bind_eq_some_iff.mp H
          obtain ⟨⟨t148, t149⟩, A160, H⟩ := H
          replace H : ((value_number.f t148).bind fun bt150 => (if t149.isNone = true then (some (bt150.1, bt150.2.1, bt150.2.2.1, bt150.2.2.2, true)) else (some (bt150.1, bt150.2.1, bt150.2.2.1, bt150.2.2.2, false)))) = some (r1, r2, r3, r4, r5) := H
          have A16 := Aside0.mk A160
          clear A160
          replace H := Option.bind_eq_some_iff.mp H
          obtain ⟨⟨t150, t151, t152, t153⟩, A170, H⟩ := H
          replace H : (if t149.isNone = true then (some (t150, t151, t152, t153, true)) else (some (t150, t151, t152, t153, false))) = some (r1, r2, r3, r4, r5) := H
          have A17 := Aside0.mk A170
          clear A170
          rcases t149 with _ | q154
          · have H1 : (some (t150, t151, t152, t153, true)) = some (r1, r2, r3, r4, r5) := by rw [if_pos (show (none : Option Int).isNone = true by rfl)] at H; exact H
            clear H
            have H := H1
            clear H1
            try simp only [errW_none, errW_some]
            simp only [Option.some.injEq, Prod.mk.injEq] at H
            obtain ⟨rfl, rfl, rfl, rfl, rfl⟩ := H
            try go_wp2_with (first | ((with_reducible refine gate_callee (f := 60) rfl ?_); refine goesT (some 20) Tryd.func60 #[.string a0, .string (⟨#[34]⟩ : ByteArray)] ?_; (with_reducible refine (strings_HasPrefix.calls a0 (⟨#[34]⟩ : ByteArray) false _ A9.out).mono ?_); rintro e w' ⟨rfl, ⟨nd, rfl⟩⟩; refine ⟨_, rfl, ?_⟩; (try (rw [drewN_self wc]; generalize hq_ : World.drewN wc _ = wc; have n0_ : Aside0 (wc.heap[gb136]? = some (.cells #[.int .i64 0, .int .i64 0, .string (⟨#[]⟩ : ByteArray), .bool false] 26 (0, 0))) := ⟨by rw [← hq_]; exact (bkT BK136.out)⟩; have n1_ : Aside0 (Below w.heap.size w wc) := ⟨by rw [← hq_]; exact (hbT HB.out)⟩; clear BK136 HB hq_; have BK136 := n0_; have HB := n1_; clear n0_ n1_))) | ((with_reducible refine gate_callee (f := 62) rfl ?_); refine goesT (some 31) Tryd.func62 #[.string a0, .int .i64 10, .int .i64 64] ?_; (with_reducible refine (strconv_ParseInt.calls a0 10 64 t148 none _ ?side1 ?side2 A16.out).mono ?_); (case side1 => first | (with_reducible exact HL_LErr) | exact ⟨LErr.below HL_LErr.out (hbT HB.out)⟩); (case side2 => first | (with_reducible exact HL_LSyn) | exact ⟨LSyn.below HL_LSyn.out (hbT HB.out)⟩); rintro e w18 ⟨ev_, hev_, rfl, hb⟩; refine ⟨_, rfl, ?_⟩; (first | obtain rfl := ErrX_none hev_ | obtain ⟨N_, rfl⟩ := ErrX_some hev_); replace BK136 := bbA BK136 hb; replace HB := bsA HB hb; (try clear hb); (try clear hb2); (try clear hk); (try clear hi)))
            replace BK136 := bdA BK136; replace HB := Aside0.mk (below_drew1 HB.out)
            refine start_ (n := 6) (S := fun w' => True) (ds := []) #[false, false, false, false, false, false] (by kernel_rfl) rfl rfl trivial (fun hHeld => ?_)
            generalize w18.drew = w19 at BK136 HB hHeld ⊢
            refine pure_ (i := 0) (N := some 34) (v := ?_) (a' := ?_) #[true, false, false, false, false, false] rfl rfl (by kernel_rfl) (fun _ _ _ h => h) (Or.inl ⟨by rfl, ?_⟩) ?_ ?_
            rotate_left; (focus (intro w'; go_simp; with_reducible rfl)); rotate_left; (focus (simp only [Act.put, List.setIfInBounds_toArray, List.set_cons_zero, List.set_cons_succ, i64_w, i32_w, IntKind.wrap_u8, IntKind.wrap_u16, IntKind.wrap_u32]; rfl))
            refine pure_ (i := 2) (N := some 36) (v := ?_) (a' := ?_) #[true, false, true, false, false, false] rfl rfl (by kernel_rfl) (fun _ _ _ h => h) (Or.inl ⟨by rfl, ?_⟩) ?_ ?_
            rotate_left; (focus (intro w'; go_simp; with_reducible rfl)); rotate_left; (focus (simp only [Act.put, List.setIfInBounds_toArray, List.set_cons_zero, List.set_cons_succ, i64_w, i32_w, IntKind.wrap_u8, IntKind.wrap_u16, IntKind.wrap_u32]; rfl))
            refine pure_ (i := 3) (N := some 37) (v := ?_) (a' := ?_) #[true, false, true, true, false, false] rfl rfl (by kernel_rfl) (fun _ _ _ h => h) (Or.inl ⟨by rfl, ?_⟩) ?_ ?_
            rotate_left; (focus (intro w'; go_simp; with_reducible rfl)); rotate_left; (focus (simp only [Act.put, List.setIfInBounds_toArray, List.set_cons_zero, List.set_cons_succ, i64_w, i32_w, IntKind.wrap_u8, IntKind.wrap_u16, IntKind.wrap_u32]; rfl))
            refine one_ (i := 1) (N := some 35) #[true, true, true, true, false, false] rfl rfl (by kernel_rfl) (by decide) (fun K hK => ?_)
            refine goes_ Tryd.func26 (by kernel_rfl) rfl #[.int .i64 t148] (by rfl) rfl rfl (by (try simp only [List.map_toArray, List.map_cons, List.map_nil]); first | done | rfl | (simp only [List.length_drop, List.length_take]; rfl)) ?_
            with_reducible refine (value_number.calls t148 t150 t151 t152 t153 _ A17.out).mono ?_
            rintro e w20 ⟨rfl, hb⟩
            refine ⟨_, rfl, ?_⟩
            replace BK136 := bbA BK136 hb; replace HB := bsA HB hb
            (try clear hb); (try clear hb2); (try clear hk); (try clear hi)
            refine hK.out _ _ trivial (fun hHeld => ?_)
            clear hK K
            refine norm_ (a' := ?_) ?_ ?_
            rotate_left
            · show Act.put _ (some 35) _ = _
              simp only [Act.put, List.setIfInBounds_toArray, List.set_cons_zero, List.set_cons_succ, i64_w, i32_w, IntKind.wrap_u8, IntKind.wrap_u16, IntKind.wrap_u32]
              rfl
            refine one_ (i := 4) (N := none) #[true, true, true, true, true, false] rfl rfl (by kernel_rfl) (by decide) (fun K hK => ?_)
            have hs21 : w20.cell? ⟨gb136, 0, none⟩ = some (.int .i64 0) := (blk_cell BK136.out 0).trans rfl
            have hfs21 := blk_frozen BK136.out 0
            have hs22 : w20.cell? ⟨gb136, 1, none⟩ = some (.int .i64 0) := (blk_cell BK136.out 1).trans rfl
            have hfs22 := blk_frozen BK136.out 1
            have hs23 : w20.cell? ⟨gb136, 2, none⟩ = some (.string (⟨#[]⟩ : ByteArray)) := (blk_cell BK136.out 2).trans rfl
            have hfs23 := blk_frozen BK136.out 2
            have hs24 : w20.cell? ⟨gb136, 3, none⟩ = some (.bool false) := (blk_cell BK136.out 3).trans rfl
            have hfs24 := blk_frozen BK136.out 3
            refine skip_ (w1 := ?_) (by rfl) rfl ?_ ?_
            rotate_left
            · go_simp
              rfl
            refine hK.out _ _ trivial (fun hHeld => ?_)
            clear hK K
            refine pure_ (i := 5) (N := some 3) (v := ?_) (a' := ?_) #[true, true, true, true, true, true] rfl rfl (by kernel_rfl) (fun _ _ _ h => h) (Or.inl ⟨by rfl, ?_⟩) ?_ ?_
            rotate_left; (focus (intro w'; go_simp; with_reducible rfl)); rotate_left; (focus (simp only [Act.put, List.setIfInBounds_toArray, List.set_cons_zero, List.set_cons_succ, i64_w, i32_w, IntKind.wrap_u8, IntKind.wrap_u16, IntKind.wrap_u32]; rfl))
            refine done_ (by kernel_rfl) ?_
            try go_wp2
            refine bodyPost_ret (results_ct rfl _ _ gb136 26 #[.int .i64 t150, .int .i64 t151, .string t152, .bool t153] (0, 0) _ rfl (by (with_reducible repeat (first | refine blk_drewN ?_ _ | refine blk_drew ?_ | refine blk_alloc ?_ _)); refine blk_put (cs := #[.int .i64 t150, .int .i64 t151, .string t152, .bool false]) ?_ 3 _ rfl; (with_reducible repeat (first | refine blk_drewN ?_ _ | refine blk_drew ?_ | refine blk_alloc ?_ _)); refine blk_put (cs := #[.int .i64 t150, .int .i64 t151, .string (⟨#[]⟩ : ByteArray), .bool false]) ?_ 2 _ rfl; (with_reducible repeat (first | refine blk_drewN ?_ _ | refine blk_drew ?_ | refine blk_alloc ?_ _)); refine blk_put (cs := #[.int .i64 t150, .int .i64 0, .string (⟨#[]⟩ : ByteArray), .bool false]) ?_ 1 _ rfl; (with_reducible repeat (first | refine blk_drewN ?_ _ | refine blk_drew ?_ | refine blk_alloc ?_ _)); refine blk_put (cs := #[.int .i64 0, .int .i64 0, .string (⟨#[]⟩ : ByteArray), .bool false]) ?_ 0 _ rfl; (with_reducible repeat (first | refine blk_drewN ?_ _ | refine blk_drew ?_ | refine blk_alloc ?_ _)); exact BK136.out) Tryd.underlying26 rfl (by kernel_rfl)) rfl ?_
            exact ⟨by first | rfl | (simp [errW_none, errW_some] <;> rfl) | (simp [*, errW_none, errW_some] <;> rfl), hbT HB.out⟩
          · have H1 : (some (t150, t151, t152, t153, false)) = some (r1, r2, r3, r4, r5) := by rw [if_neg (show ¬ (some q154).isNone = true by simp)] at H; exact H
            clear H
            have H := H1
            clear H1
            try simp only [errW_none, errW_some]
            simp only [Option.some.injEq, Prod.mk.injEq] at H
            obtain ⟨rfl, rfl, rfl, rfl, rfl⟩ := H
            try go_wp2_with (first | ((with_reducible refine gate_callee (f := 60) rfl ?_); refine goesT (some 20) Tryd.func60 #[.string a0, .string (⟨#[34]⟩ : ByteArray)] ?_; (with_reducible refine (strings_HasPrefix.calls a0 (⟨#[34]⟩ : ByteArray) false _ A9.out).mono ?_); rintro e w' ⟨rfl, ⟨nd, rfl⟩⟩; refine ⟨_, rfl, ?_⟩; (try (rw [drewN_self wc]; generalize hq_ : World.drewN wc _ = wc; have n0_ : Aside0 (wc.heap[gb136]? = some (.cells #[.int .i64 0, .int .i64 0, .string (⟨#[]⟩ : ByteArray), .bool false] 26 (0, 0))) := ⟨by rw [← hq_]; exact (bkT BK136.out)⟩; have n1_ : Aside0 (Below w.heap.size w wc) := ⟨by rw [← hq_]; exact (hbT HB.out)⟩; clear BK136 HB hq_; have BK136 := n0_; have HB := n1_; clear n0_ n1_))) | ((with_reducible refine gate_callee (f := 62) rfl ?_); refine goesT (some 31) Tryd.func62 #[.string a0, .int .i64 10, .int .i64 64] ?_; (with_reducible refine (strconv_ParseInt.calls a0 10 64 t148 (some q154) _ ?side1 ?side2 A16.out).mono ?_); (case side1 => first | (with_reducible exact HL_LErr) | exact ⟨LErr.below HL_LErr.out (hbT HB.out)⟩); (case side2 => first | (with_reducible exact HL_LSyn) | exact ⟨LSyn.below HL_LSyn.out (hbT HB.out)⟩); rintro e w25 ⟨ev_, hev_, rfl, hb⟩; refine ⟨_, rfl, ?_⟩; (first | obtain rfl := ErrX_none hev_ | obtain ⟨N_, rfl⟩ := ErrX_some hev_); replace BK136 := bbA BK136 hb; replace HB := bsA HB hb; (try clear hb); (try clear hb2); (try clear hk); (try clear hi)))
            replace BK136 := bdA BK136; replace HB := Aside0.mk (below_drew1 HB.out)
            refine start_ (n := 6) (S := fun w' => True) (ds := []) #[false, false, false, false, false, false] (by kernel_rfl) rfl rfl trivial (fun hHeld => ?_)
            generalize w25.drew = w26 at BK136 HB hHeld ⊢
            refine pure_ (i := 0) (N := some 34) (v := ?_) (a' := ?_) #[true, false, false, false, false, false] rfl rfl (by kernel_rfl) (fun _ _ _ h => h) (Or.inl ⟨by rfl, ?_⟩) ?_ ?_
            rotate_left; (focus (intro w'; go_simp; with_reducible rfl)); rotate_left; (focus (simp only [Act.put, List.setIfInBounds_toArray, List.set_cons_zero, List.set_cons_succ, i64_w, i32_w, IntKind.wrap_u8, IntKind.wrap_u16, IntKind.wrap_u32]; rfl))
            refine pure_ (i := 2) (N := some 36) (v := ?_) (a' := ?_) #[true, false, true, false, false, false] rfl rfl (by kernel_rfl) (fun _ _ _ h => h) (Or.inl ⟨by rfl, ?_⟩) ?_ ?_
            rotate_left; (focus (intro w'; go_simp; with_reducible rfl)); rotate_left; (focus (simp only [Act.put, List.setIfInBounds_toArray, List.set_cons_zero, List.set_cons_succ, i64_w, i32_w, IntKind.wrap_u8, IntKind.wrap_u16, IntKind.wrap_u32]; rfl))
            refine pure_ (i := 3) (N := some 37) (v := ?_) (a' := ?_) #[true, false, true, true, false, false] rfl rfl (by kernel_rfl) (fun _ _ _ h => h) (Or.inl ⟨by rfl, ?_⟩) ?_ ?_
            rotate_left; (focus (intro w'; go_simp; with_reducible rfl)); rotate_left; (focus (simp only [Act.put, List.setIfInBounds_toArray, List.set_cons_zero, List.set_cons_succ, i64_w, i32_w, IntKind.wrap_u8, IntKind.wrap_u16, IntKind.wrap_u32]; rfl))
            refine one_ (i := 1) (N := some 35) #[true, true, true, true, false, false] rfl rfl (by kernel_rfl) (by decide) (fun K hK => ?_)
            refine goes_ Tryd.func26 (by kernel_rfl) rfl #[.int .i64 t148] (by rfl) rfl rfl (by (try simp only [List.map_toArray, List.map_cons, List.map_nil]); first | done | rfl | (simp only [List.length_drop, List.length_take]; rfl)) ?_
            with_reducible refine (value_number.calls t148 t150 t151 t152 t153 _ A17.out).mono ?_
            rintro e w27 ⟨rfl, hb⟩
            refine ⟨_, rfl, ?_⟩
            replace BK136 := bbA BK136 hb; replace HB := bsA HB hb
            (try clear hb); (try clear hb2); (try clear hk); (try clear hi)
            refine hK.out _ _ trivial (fun hHeld => ?_)
            clear hK K
            refine norm_ (a' := ?_) ?_ ?_
            rotate_left
            · show Act.put _ (some 35) _ = _
              simp only [Act.put, List.setIfInBounds_toArray, List.set_cons_zero, List.set_cons_succ, i64_w, i32_w, IntKind.wrap_u8, IntKind.wrap_u16, IntKind.wrap_u32]
              rfl
            refine one_ (i := 4) (N := none) #[true, true, true, true, true, false] rfl rfl (by kernel_rfl) (by decide) (fun K hK => ?_)
            have hs28 : w27.cell? ⟨gb136, 0, none⟩ = some (.int .i64 0) := (blk_cell BK136.out 0).trans rfl
            have hfs28 := blk_frozen BK136.out 0
            have hs29 : w27.cell? ⟨gb136, 1, none⟩ = some (.int .i64 0) := (blk_cell BK136.out 1).trans rfl
            have hfs29 := blk_frozen BK136.out 1
            have hs30 : w27.cell? ⟨gb136, 2, none⟩ = some (.string (⟨#[]⟩ : ByteArray)) := (blk_cell BK136.out 2).trans rfl
            have hfs30 := blk_frozen BK136.out 2
            have hs31 : w27.cell? ⟨gb136, 3, none⟩ = some (.bool false) := (blk_cell BK136.out 3).trans rfl
            have hfs31 := blk_frozen BK136.out 3
            refine skip_ (w1 := ?_) (by rfl) rfl ?_ ?_
            rotate_left
            · go_simp
              rfl
            refine hK.out _ _ trivial (fun hHeld => ?_)
            clear hK K
            refine pure_ (i := 5) (N := some 3) (v := ?_) (a' := ?_) #[true, true, true, true, true, true] rfl rfl (by kernel_rfl) (fun _ _ _ h => h) (Or.inl ⟨by rfl, ?_⟩) ?_ ?_
            rotate_left; (focus (intro w'; go_simp; with_reducible rfl)); rotate_left; (focus (simp only [Act.put, List.setIfInBounds_toArray, List.set_cons_zero, List.set_cons_succ, i64_w, i32_w, IntKind.wrap_u8, IntKind.wrap_u16, IntKind.wrap_u32]; rfl))
            refine done_ (by kernel_rfl) ?_
            try go_wp2
            refine bodyPost_ret (results_ct rfl _ _ gb136 26 #[.int .i64 t150, .int .i64 t151, .string t152, .bool t153] (0, 0) _ rfl (by (with_reducible repeat (first | refine blk_drewN ?_ _ | refine blk_drew ?_ | refine blk_alloc ?_ _)); refine blk_put (cs := #[.int .i64 t150, .int .i64 t151, .string t152, .bool false]) ?_ 3 _ rfl; (with_reducible repeat (first | refine blk_drewN ?_ _ | refine blk_drew ?_ | refine blk_alloc ?_ _)); refine blk_put (cs := #[.int .i64 t150, .int .i64 t151, .string (⟨#[]⟩ : ByteArray), .bool false]) ?_ 2 _ rfl; (with_reducible repeat (first | refine blk_drewN ?_ _ | refine blk_drew ?_ | refine blk_alloc ?_ _)); refine blk_put (cs := #[.int .i64 t150, .int .i64 0, .string (⟨#[]⟩ : ByteArray), .bool false]) ?_ 1 _ rfl; (with_reducible repeat (first | refine blk_drewN ?_ _ | refine blk_drew ?_ | refine blk_alloc ?_ _)); refine blk_put (cs := #[.int .i64 0, .int .i64 0, .string (⟨#[]⟩ : ByteArray), .bool false]) ?_ 0 _ rfl; (with_reducible repeat (first | refine blk_drewN ?_ _ | refine blk_drew ?_ | refine blk_alloc ?_ _)); exact BK136.out) Tryd.underlying26 rfl (by kernel_rfl)) rfl ?_
            exact ⟨by first | rfl | (simp [errW_none, errW_some] <;> rfl) | (simp [*, errW_none, errW_some] <;> rfl), hbT HB.out⟩

/-! ### value_Read: function 15 -/
def value_Read.f (k : Nat) (a0 : ByteArray) : Option (Int × Int × ByteArray × Bool × Int) := (value_guess.f k a0).bind fun bt156 => (if bt156.2.2.2.2 = true then ((value_Show.f bt156.1 bt156.2.1 bt156.2.2.1 bt156.2.2.2.1).bind fun bt162 => (if bt162.2 = 0 then (if bt162.1.toList = a0.toList then (some (bt156.1, bt156.2.1, bt156.2.2.1, bt156.2.2.2.1, 0)) else (some (0, 0, (⟨#[]⟩ : ByteArray), false, 12))) else (some (0, 0, (⟨#[]⟩ : ByteArray), false, 12)))) else (some (0, 0, (⟨#[]⟩ : ByteArray), false, 12)))
set_option maxRecDepth 100000 in
theorem value_Read.mono : ∀ a0 k, LeO (value_Read.f k a0) (value_Read.f (k + 1) a0) := by
  intro a0 k
  unfold value_Read.f
  repeat' first
      | (with_reducible exact value_guess.mono _ _)
      | (with_reducible exact LeO.refl _)
      | (with_reducible exact LeO.none _)
      | (with_reducible refine LeO.ite ?_ ?_)
      | (with_reducible refine LeO.bind ?_ (fun _ => ?_))
      | exact value_guess.mono _ _
      | exact LeO.none _
      | refine LeO.ite ?_ ?_
      | refine LeO.bind ?_ (fun _ => ?_)
set_option maxHeartbeats 8000000 in
set_option maxRecDepth 100000 in
theorem value_Read.calls (k : Nat) (a0 : ByteArray) (r1 : Int) (r2 : Int) (r3 : ByteArray) (r4 : Bool) (r5 : Int) (w : World) (HL_LErr : Aside0 (LErr w)) (HL_LG1 : Aside0 (LG1 w)) (HL_LSyn : Aside0 (LSyn w)) (h : value_Read.f k a0 = some (r1, r2, r3, r4, r5)) :
    Calls Tryd.prog 15 #[.string a0] w fun e w' => e = .returned (.tuple #[.agg #[.int .i64 r1, .int .i64 r2, .string r3, .bool r4], .int .i64 r5]) ∧ Below w.heap.size w w' := by
  have hu26 := Tryd.underlying26
  have HB := Aside0.mk (Below.refl w.heap.size w)
  have H : ((value_guess.f k a0).bind fun bt156 => (if bt156.2.2.2.2 = true then ((value_Show.f bt156.1 bt156.2.1 bt156.2.2.1 bt156.2.2.2.1).bind fun bt162 => (if bt162.2 = 0 then (if bt162.1.toList = a0.toList then (some (bt156.1, bt156.2.1, bt156.2.2.1, bt156.2.2.2.1, 0)) else (some (0, 0, (⟨#[]⟩ : ByteArray), false, 12))) else (some (0, 0, (⟨#[]⟩ : ByteArray), false, 12)))) else (some (0, 0, (⟨#[]⟩ : ByteArray), false, 12)))) = some (r1, r2, r3, r4, r5) := h
  clear h
  replace H := Option.bind_eq_some_iff.mp H
  obtain ⟨⟨t156, t157, t158, t159, t160⟩, A20, H⟩ := H
  replace H : (if t160 = true then ((value_Show.f t156 t157 t158 t159).bind fun bt162 => (if bt162.2 = 0 then (if bt162.1.toList = a0.toList then (some (t156, t157, t158, t159, 0)) else (some (0, 0, (⟨#[]⟩ : ByteArray), false, 12))) else (some (0, 0, (⟨#[]⟩ : ByteArray), false, 12)))) else (some (0, 0, (⟨#[]⟩ : ByteArray), false, 12))) = some (r1, r2, r3, r4, r5) := H
  have A2 := Aside0.mk A20
  clear A20
  by_cases c3 : t160 = true
  · subst c3
    have H1 : ((value_Show.f t156 t157 t158 t159).bind fun bt162 => (if bt162.2 = 0 then (if bt162.1.toList = a0.toList then (some (t156, t157, t158, t159, 0)) else (some (0, 0, (⟨#[]⟩ : ByteArray), false, 12))) else (some (0, 0, (⟨#[]⟩ : ByteArray), false, 12)))) = some (r1, r2, r3, r4, r5) := by rw [if_pos rfl] at H; exact H
    clear H
    have H := H1
    clear H1
    replace H := Option.bind_eq_some_iff.mp H
    obtain ⟨⟨t162, t163⟩, A40, H⟩ := H
    replace H : (if t163 = 0 then (if t162.toList = a0.toList then (some (t156, t157, t158, t159, 0)) else (some (0, 0, (⟨#[]⟩ : ByteArray), false, 12))) else (some (0, 0, (⟨#[]⟩ : ByteArray), false, 12))) = some (r1, r2, r3, r4, r5) := H
    have A4 := Aside0.mk A40
    clear A40
    by_cases c5 : t163 = 0
    · rw [if_pos c5] at H
      have c5b0 : (t163 == 0) = true := beq_iff_eq.mpr c5
      have c5b1 : (t163 != 0) = false := bne_eq_false_iff_eq.mpr c5
      clear c5
      by_cases c6 : t162.toList = a0.toList
      · rw [if_pos c6] at H
        have c6b0 : (t162.toList == a0.toList) = true := beq_iff_eq.mpr c6
        have c6b1 : (t162.toList != a0.toList) = false := bne_eq_false_iff_eq.mpr c6
        clear c6
        simp only [Option.some.injEq, Prod.mk.injEq] at H
        obtain ⟨rfl, rfl, rfl, rfl, rfl⟩ := H
        go_enter Tryd.func15, Tryd.ntmps15
        go_wp2_with (first | ((with_reducible refine gate_dst (N := 2) rfl ?_); refine box_event ?hg (N := 2) ?hd (cs := #[.int .i64 0, .int .i64 0, .string (⟨#[]⟩ : ByteArray), .bool false]) (t := 26) ?hr ?_; (case hd => rfl); (case hg => rfl); (case hr => first | (go_simp; done) | (go_simp; rfl)); intro gb155 hg w7 hbox hb; have BK155 := Aside0.mk hbox; have GW155 := geA hg HB; have GE155 := geA hg HB; replace HB := bsA HB hb; clear hb hbox hg) | ((with_reducible refine gate_callee (f := 35) rfl ?_); refine goesT (some 10) Tryd.func35 #[.string a0] ?_; (with_reducible refine (value_guess.calls k a0 t156 t157 t158 t159 true _ ?side1 ?side2 A2.out).mono ?_); (case side1 => first | (with_reducible exact HL_LErr) | exact ⟨LErr.below HL_LErr.out (hbT HB.out)⟩); (case side2 => first | (with_reducible exact HL_LSyn) | exact ⟨LSyn.below HL_LSyn.out (hbT HB.out)⟩); rintro e w8 ⟨rfl, hb⟩; refine ⟨_, rfl, ?_⟩; replace BK155 := bbA BK155 hb; replace HB := bsA HB hb; (try clear hb); (try clear hb2); (try clear hk); (try clear hi)) | ((with_reducible refine gate_dst (N := 4) rfl ?_); refine box_event ?hg (N := 4) ?hd (cs := #[.int .i64 0, .int .i64 0, .string (⟨#[]⟩ : ByteArray), .bool false]) (t := 26) ?hr ?_; (case hd => rfl); (case hg => rfl); (case hr => first | (go_simp; done) | (go_simp; rfl)); intro gb161 hg w9 hbox hb; have BK161 := Aside0.mk hbox; have GW161 := geA hg HB; have GE161 := geA hg HB; have NB155_161 := neA hg BK155; have NB161_155 := neB hg BK155; replace BK155 := bbA BK155 hb; replace HB := bsA HB hb; clear hb hbox hg; have hnb10 := NB161_155.out; have hnc10 := NB155_161.out; have hcz11_0 : w9.cell? ⟨gb161, 0, none⟩ = some (.int .i64 0) := (blk_cell BK161.out 0).trans rfl; have hcz11_1 : w9.cell? ⟨gb161, 1, none⟩ = some (.int .i64 0) := (blk_cell BK161.out 1).trans rfl; have hcz11_2 : w9.cell? ⟨gb161, 2, none⟩ = some (.string (⟨#[]⟩ : ByteArray)) := (blk_cell BK161.out 2).trans rfl; have hcz11_3 : w9.cell? ⟨gb161, 3, none⟩ = some (.bool false) := (blk_cell BK161.out 3).trans rfl; have hfz11_0 := blk_frozen BK161.out 0; have hfz11_1 := blk_frozen BK161.out 1; have hfz11_2 := blk_frozen BK161.out 2; have hfz11_3 := blk_frozen BK161.out 3) | ((with_reducible refine gate_callee (f := 13) rfl ?_); refine goesT (some 18) Tryd.func13 #[.agg #[.int .i64 t156, .int .i64 t157, .string t158, .bool t159]] ?_; (with_reducible refine (value_Show.calls t156 t157 t158 t159 t162 t163 _ ?side1 A4.out).mono ?_); (case side1 => first | (with_reducible exact HL_LG1) | exact ⟨LG1.below HL_LG1.out (hbT HB.out)⟩); rintro e w12 ⟨rfl, hb⟩; refine ⟨_, rfl, ?_⟩; replace BK155 := Aside0.mk (blk_below (g := gb155) (o := .cells #[.int .i64 0, .int .i64 0, .string (⟨#[]⟩ : ByteArray), .bool false] 26 (0, 0)) (bfT NB155_161.out BK155.out) hb); replace BK161 := Aside0.mk (blk_below (g := gb161) (o := .cells #[.int .i64 t156, .int .i64 t157, .string t158, .bool t159] 26 (0, 0)) (by (with_reducible repeat (first | refine blk_drewN ?_ _ | refine blk_drew ?_ | refine blk_alloc ?_ _)); refine blk_put (cs := #[.int .i64 t156, .int .i64 t157, .string t158, .bool false]) ?_ 3 _ rfl; (with_reducible repeat (first | refine blk_drewN ?_ _ | refine blk_drew ?_ | refine blk_alloc ?_ _)); refine blk_put (cs := #[.int .i64 t156, .int .i64 t157, .string (⟨#[]⟩ : ByteArray), .bool false]) ?_ 2 _ rfl; (with_reducible repeat (first | refine blk_drewN ?_ _ | refine blk_drew ?_ | refine blk_alloc ?_ _)); refine blk_put (cs := #[.int .i64 t156, .int .i64 0, .string (⟨#[]⟩ : ByteArray), .bool false]) ?_ 1 _ rfl; (with_reducible repeat (first | refine blk_drewN ?_ _ | refine blk_drew ?_ | refine blk_alloc ?_ _)); refine blk_put (cs := #[.int .i64 0, .int .i64 0, .string (⟨#[]⟩ : ByteArray), .bool false]) ?_ 0 _ rfl; (with_reducible repeat (first | refine blk_drewN ?_ _ | refine blk_drew ?_ | refine blk_alloc ?_ _)); exact BK161.out) hb); replace HB := bsA HB hb; (try clear hb); (try clear hb2); (try clear hk); (try clear hi); have hcz13_0 : w12.cell? ⟨gb161, 0, none⟩ = some (.int .i64 t156) := (blk_cell BK161.out 0).trans rfl; have hcz13_1 : w12.cell? ⟨gb161, 1, none⟩ = some (.int .i64 t157) := (blk_cell BK161.out 1).trans rfl; have hcz13_2 : w12.cell? ⟨gb161, 2, none⟩ = some (.string t158) := (blk_cell BK161.out 2).trans rfl; have hcz13_3 : w12.cell? ⟨gb161, 3, none⟩ = some (.bool t159) := (blk_cell BK161.out 3).trans rfl; have hfz13_0 := blk_frozen BK161.out 0; have hfz13_1 := blk_frozen BK161.out 1; have hfz13_2 := blk_frozen BK161.out 2; have hfz13_3 := blk_frozen BK161.out 3; have hcz14_0 : w12.cell? ⟨gb155, 0, none⟩ = some (.int .i64 0) := (blk_cell BK155.out 0).trans rfl; have hcz14_1 : w12.cell? ⟨gb155, 1, none⟩ = some (.int .i64 0) := (blk_cell BK155.out 1).trans rfl; have hcz14_2 : w12.cell? ⟨gb155, 2, none⟩ = some (.string (⟨#[]⟩ : ByteArray)) := (blk_cell BK155.out 2).trans rfl; have hcz14_3 : w12.cell? ⟨gb155, 3, none⟩ = some (.bool false) := (blk_cell BK155.out 3).trans rfl; have hfz14_0 := blk_frozen BK155.out 0; have hfz14_1 := blk_frozen BK155.out 1; have hfz14_2 := blk_frozen BK155.out 2; have hfz14_3 := blk_frozen BK155.out 3))
        refine bodyPost_ret (results_ct rfl _ _ gb155 26 #[.int .i64 t156, .int .i64 t157, .string t158, .bool t159] (0, 0) _ rfl (by (with_reducible repeat (first | refine blk_drewN ?_ _ | refine blk_drew ?_ | refine blk_alloc ?_ _)); refine blk_put (cs := #[.int .i64 t156, .int .i64 t157, .string t158, .bool false]) ?_ 3 _ rfl; (with_reducible repeat (first | refine blk_drewN ?_ _ | refine blk_drew ?_ | refine blk_alloc ?_ _)); refine blk_put (cs := #[.int .i64 t156, .int .i64 t157, .string (⟨#[]⟩ : ByteArray), .bool false]) ?_ 2 _ rfl; (with_reducible repeat (first | refine blk_drewN ?_ _ | refine blk_drew ?_ | refine blk_alloc ?_ _)); refine blk_put (cs := #[.int .i64 t156, .int .i64 0, .string (⟨#[]⟩ : ByteArray), .bool false]) ?_ 1 _ rfl; (with_reducible repeat (first | refine blk_drewN ?_ _ | refine blk_drew ?_ | refine blk_alloc ?_ _)); refine blk_put (cs := #[.int .i64 0, .int .i64 0, .string (⟨#[]⟩ : ByteArray), .bool false]) ?_ 0 _ rfl; (with_reducible repeat (first | refine blk_drewN ?_ _ | refine blk_drew ?_ | refine blk_alloc ?_ _)); exact BK155.out) Tryd.underlying26 rfl (by kernel_rfl)) rfl ?_
        exact ⟨by first | rfl | (simp [errW_none, errW_some] <;> rfl) | (simp [*, errW_none, errW_some] <;> rfl), hbT HB.out⟩
      · rw [if_neg c6] at H
        have c6b0 : (t162.toList == a0.toList) = false := beq_eq_false_iff_ne.mpr c6
        have c6b1 : (t162.toList != a0.toList) = true := bne_iff_ne.mpr c6
        simp only [Option.some.injEq, Prod.mk.injEq] at H
        obtain ⟨rfl, rfl, rfl, rfl, rfl⟩ := H
        go_enter Tryd.func15, Tryd.ntmps15
        go_wp2_with (first | ((with_reducible refine gate_dst (N := 2) rfl ?_); refine box_event ?hg (N := 2) ?hd (cs := #[.int .i64 0, .int .i64 0, .string (⟨#[]⟩ : ByteArray), .bool false]) (t := 26) ?hr ?_; (case hd => rfl); (case hg => rfl); (case hr => first | (go_simp; done) | (go_simp; rfl)); intro gb155 hg w15 hbox hb; have BK155 := Aside0.mk hbox; have GW155 := geA hg HB; have GE155 := geA hg HB; replace HB := bsA HB hb; clear hb hbox hg) | ((with_reducible refine gate_callee (f := 35) rfl ?_); refine goesT (some 10) Tryd.func35 #[.string a0] ?_; (with_reducible refine (value_guess.calls k a0 t156 t157 t158 t159 true _ ?side1 ?side2 A2.out).mono ?_); (case side1 => first | (with_reducible exact HL_LErr) | exact ⟨LErr.below HL_LErr.out (hbT HB.out)⟩); (case side2 => first | (with_reducible exact HL_LSyn) | exact ⟨LSyn.below HL_LSyn.out (hbT HB.out)⟩); rintro e w16 ⟨rfl, hb⟩; refine ⟨_, rfl, ?_⟩; replace BK155 := bbA BK155 hb; replace HB := bsA HB hb; (try clear hb); (try clear hb2); (try clear hk); (try clear hi)) | ((with_reducible refine gate_dst (N := 4) rfl ?_); refine box_event ?hg (N := 4) ?hd (cs := #[.int .i64 0, .int .i64 0, .string (⟨#[]⟩ : ByteArray), .bool false]) (t := 26) ?hr ?_; (case hd => rfl); (case hg => rfl); (case hr => first | (go_simp; done) | (go_simp; rfl)); intro gb161 hg w17 hbox hb; have BK161 := Aside0.mk hbox; have GW161 := geA hg HB; have GE161 := geA hg HB; have NB155_161 := neA hg BK155; have NB161_155 := neB hg BK155; replace BK155 := bbA BK155 hb; replace HB := bsA HB hb; clear hb hbox hg; have hnb18 := NB161_155.out; have hnc18 := NB155_161.out; have hcz19_0 : w17.cell? ⟨gb161, 0, none⟩ = some (.int .i64 0) := (blk_cell BK161.out 0).trans rfl; have hcz19_1 : w17.cell? ⟨gb161, 1, none⟩ = some (.int .i64 0) := (blk_cell BK161.out 1).trans rfl; have hcz19_2 : w17.cell? ⟨gb161, 2, none⟩ = some (.string (⟨#[]⟩ : ByteArray)) := (blk_cell BK161.out 2).trans rfl; have hcz19_3 : w17.cell? ⟨gb161, 3, none⟩ = some (.bool false) := (blk_cell BK161.out 3).trans rfl; have hfz19_0 := blk_frozen BK161.out 0; have hfz19_1 := blk_frozen BK161.out 1; have hfz19_2 := blk_frozen BK161.out 2; have hfz19_3 := blk_frozen BK161.out 3) | ((with_reducible refine gate_callee (f := 13) rfl ?_); refine goesT (some 18) Tryd.func13 #[.agg #[.int .i64 t156, .int .i64 t157, .string t158, .bool t159]] ?_; (with_reducible refine (value_Show.calls t156 t157 t158 t159 t162 t163 _ ?side1 A4.out).mono ?_); (case side1 => first | (with_reducible exact HL_LG1) | exact ⟨LG1.below HL_LG1.out (hbT HB.out)⟩); rintro e w20 ⟨rfl, hb⟩; refine ⟨_, rfl, ?_⟩; replace BK155 := Aside0.mk (blk_below (g := gb155) (o := .cells #[.int .i64 0, .int .i64 0, .string (⟨#[]⟩ : ByteArray), .bool false] 26 (0, 0)) (bfT NB155_161.out BK155.out) hb); replace BK161 := Aside0.mk (blk_below (g := gb161) (o := .cells #[.int .i64 t156, .int .i64 t157, .string t158, .bool t159] 26 (0, 0)) (by (with_reducible repeat (first | refine blk_drewN ?_ _ | refine blk_drew ?_ | refine blk_alloc ?_ _)); refine blk_put (cs := #[.int .i64 t156, .int .i64 t157, .string t158, .bool false]) ?_ 3 _ rfl; (with_reducible repeat (first | refine blk_drewN ?_ _ | refine blk_drew ?_ | refine blk_alloc ?_ _)); refine blk_put (cs := #[.int .i64 t156, .int .i64 t157, .string (⟨#[]⟩ : ByteArray), .bool false]) ?_ 2 _ rfl; (with_reducible repeat (first | refine blk_drewN ?_ _ | refine blk_drew ?_ | refine blk_alloc ?_ _)); refine blk_put (cs := #[.int .i64 t156, .int .i64 0, .string (⟨#[]⟩ : ByteArray), .bool false]) ?_ 1 _ rfl; (with_reducible repeat (first | refine blk_drewN ?_ _ | refine blk_drew ?_ | refine blk_alloc ?_ _)); refine blk_put (cs := #[.int .i64 0, .int .i64 0, .string (⟨#[]⟩ : ByteArray), .bool false]) ?_ 0 _ rfl; (with_reducible repeat (first | refine blk_drewN ?_ _ | refine blk_drew ?_ | refine blk_alloc ?_ _)); exact BK161.out) hb); replace HB := bsA HB hb; (try clear hb); (try clear hb2); (try clear hk); (try clear hi); have hcz21_0 : w20.cell? ⟨gb155, 0, none⟩ = some (.int .i64 0) := (blk_cell BK155.out 0).trans rfl; have hcz21_1 : w20.cell? ⟨gb155, 1, none⟩ = some (.int .i64 0) := (blk_cell BK155.out 1).trans rfl; have hcz21_2 : w20.cell? ⟨gb155, 2, none⟩ = some (.string (⟨#[]⟩ : ByteArray)) := (blk_cell BK155.out 2).trans rfl; have hcz21_3 : w20.cell? ⟨gb155, 3, none⟩ = some (.bool false) := (blk_cell BK155.out 3).trans rfl; have hfz21_0 := blk_frozen BK155.out 0; have hfz21_1 := blk_frozen BK155.out 1; have hfz21_2 := blk_frozen BK155.out 2; have hfz21_3 := blk_frozen BK155.out 3))
        refine bodyPost_ret (results_ct rfl _ _ gb155 26 #[.int .i64 0, .int .i64 0, .string (⟨#[]⟩ : ByteArray), .bool false] (0, 0) _ rfl (by (with_reducible repeat (first | refine blk_drewN ?_ _ | refine blk_drew ?_ | refine blk_alloc ?_ _)); refine blk_put (cs := #[.int .i64 0, .int .i64 0, .string (⟨#[]⟩ : ByteArray), .bool false]) ?_ 3 _ rfl; (with_reducible repeat (first | refine blk_drewN ?_ _ | refine blk_drew ?_ | refine blk_alloc ?_ _)); refine blk_put (cs := #[.int .i64 0, .int .i64 0, .string (⟨#[]⟩ : ByteArray), .bool false]) ?_ 2 _ rfl; (with_reducible repeat (first | refine blk_drewN ?_ _ | refine blk_drew ?_ | refine blk_alloc ?_ _)); refine blk_put (cs := #[.int .i64 0, .int .i64 0, .string (⟨#[]⟩ : ByteArray), .bool false]) ?_ 1 _ rfl; (with_reducible repeat (first | refine blk_drewN ?_ _ | refine blk_drew ?_ | refine blk_alloc ?_ _)); refine blk_put (cs := #[.int .i64 0, .int .i64 0, .string (⟨#[]⟩ : ByteArray), .bool false]) ?_ 0 _ rfl; (with_reducible repeat (first | refine blk_drewN ?_ _ | refine blk_drew ?_ | refine blk_alloc ?_ _)); exact BK155.out) Tryd.underlying26 rfl (by kernel_rfl)) rfl ?_
        exact ⟨by first | rfl | (simp [errW_none, errW_some] <;> rfl) | (simp [*, errW_none, errW_some] <;> rfl), hbT HB.out⟩
    · rw [if_neg c5] at H
      have c5b0 : (t163 == 0) = false := beq_eq_false_iff_ne.mpr c5
      have c5b1 : (t163 != 0) = true := bne_iff_ne.mpr c5
      simp only [Option.some.injEq, Prod.mk.injEq] at H
      obtain ⟨rfl, rfl, rfl, rfl, rfl⟩ := H
      go_enter Tryd.func15, Tryd.ntmps15
      go_wp2_with (first | ((with_reducible refine gate_dst (N := 2) rfl ?_); refine box_event ?hg (N := 2) ?hd (cs := #[.int .i64 0, .int .i64 0, .string (⟨#[]⟩ : ByteArray), .bool false]) (t := 26) ?hr ?_; (case hd => rfl); (case hg => rfl); (case hr => first | (go_simp; done) | (go_simp; rfl)); intro gb155 hg w22 hbox hb; have BK155 := Aside0.mk hbox; have GW155 := geA hg HB; have GE155 := geA hg HB; replace HB := bsA HB hb; clear hb hbox hg) | ((with_reducible refine gate_callee (f := 35) rfl ?_); refine goesT (some 10) Tryd.func35 #[.string a0] ?_; (with_reducible refine (value_guess.calls k a0 t156 t157 t158 t159 true _ ?side1 ?side2 A2.out).mono ?_); (case side1 => first | (with_reducible exact HL_LErr) | exact ⟨LErr.below HL_LErr.out (hbT HB.out)⟩); (case side2 => first | (with_reducible exact HL_LSyn) | exact ⟨LSyn.below HL_LSyn.out (hbT HB.out)⟩); rintro e w23 ⟨rfl, hb⟩; refine ⟨_, rfl, ?_⟩; replace BK155 := bbA BK155 hb; replace HB := bsA HB hb; (try clear hb); (try clear hb2); (try clear hk); (try clear hi)) | ((with_reducible refine gate_dst (N := 4) rfl ?_); refine box_event ?hg (N := 4) ?hd (cs := #[.int .i64 0, .int .i64 0, .string (⟨#[]⟩ : ByteArray), .bool false]) (t := 26) ?hr ?_; (case hd => rfl); (case hg => rfl); (case hr => first | (go_simp; done) | (go_simp; rfl)); intro gb161 hg w24 hbox hb; have BK161 := Aside0.mk hbox; have GW161 := geA hg HB; have GE161 := geA hg HB; have NB155_161 := neA hg BK155; have NB161_155 := neB hg BK155; replace BK155 := bbA BK155 hb; replace HB := bsA HB hb; clear hb hbox hg; have hnb25 := NB161_155.out; have hnc25 := NB155_161.out; have hcz26_0 : w24.cell? ⟨gb161, 0, none⟩ = some (.int .i64 0) := (blk_cell BK161.out 0).trans rfl; have hcz26_1 : w24.cell? ⟨gb161, 1, none⟩ = some (.int .i64 0) := (blk_cell BK161.out 1).trans rfl; have hcz26_2 : w24.cell? ⟨gb161, 2, none⟩ = some (.string (⟨#[]⟩ : ByteArray)) := (blk_cell BK161.out 2).trans rfl; have hcz26_3 : w24.cell? ⟨gb161, 3, none⟩ = some (.bool false) := (blk_cell BK161.out 3).trans rfl; have hfz26_0 := blk_frozen BK161.out 0; have hfz26_1 := blk_frozen BK161.out 1; have hfz26_2 := blk_frozen BK161.out 2; have hfz26_3 := blk_frozen BK161.out 3) | ((with_reducible refine gate_callee (f := 13) rfl ?_); refine goesT (some 18) Tryd.func13 #[.agg #[.int .i64 t156, .int .i64 t157, .string t158, .bool t159]] ?_; (with_reducible refine (value_Show.calls t156 t157 t158 t159 t162 t163 _ ?side1 A4.out).mono ?_); (case side1 => first | (with_reducible exact HL_LG1) | exact ⟨LG1.below HL_LG1.out (hbT HB.out)⟩); rintro e w27 ⟨rfl, hb⟩; refine ⟨_, rfl, ?_⟩; replace BK155 := Aside0.mk (blk_below (g := gb155) (o := .cells #[.int .i64 0, .int .i64 0, .string (⟨#[]⟩ : ByteArray), .bool false] 26 (0, 0)) (bfT NB155_161.out BK155.out) hb); replace BK161 := Aside0.mk (blk_below (g := gb161) (o := .cells #[.int .i64 t156, .int .i64 t157, .string t158, .bool t159] 26 (0, 0)) (by (with_reducible repeat (first | refine blk_drewN ?_ _ | refine blk_drew ?_ | refine blk_alloc ?_ _)); refine blk_put (cs := #[.int .i64 t156, .int .i64 t157, .string t158, .bool false]) ?_ 3 _ rfl; (with_reducible repeat (first | refine blk_drewN ?_ _ | refine blk_drew ?_ | refine blk_alloc ?_ _)); refine blk_put (cs := #[.int .i64 t156, .int .i64 t157, .string (⟨#[]⟩ : ByteArray), .bool false]) ?_ 2 _ rfl; (with_reducible repeat (first | refine blk_drewN ?_ _ | refine blk_drew ?_ | refine blk_alloc ?_ _)); refine blk_put (cs := #[.int .i64 t156, .int .i64 0, .string (⟨#[]⟩ : ByteArray), .bool false]) ?_ 1 _ rfl; (with_reducible repeat (first | refine blk_drewN ?_ _ | refine blk_drew ?_ | refine blk_alloc ?_ _)); refine blk_put (cs := #[.int .i64 0, .int .i64 0, .string (⟨#[]⟩ : ByteArray), .bool false]) ?_ 0 _ rfl; (with_reducible repeat (first | refine blk_drewN ?_ _ | refine blk_drew ?_ | refine blk_alloc ?_ _)); exact BK161.out) hb); replace HB := bsA HB hb; (try clear hb); (try clear hb2); (try clear hk); (try clear hi); have hcz28_0 : w27.cell? ⟨gb155, 0, none⟩ = some (.int .i64 0) := (blk_cell BK155.out 0).trans rfl; have hcz28_1 : w27.cell? ⟨gb155, 1, none⟩ = some (.int .i64 0) := (blk_cell BK155.out 1).trans rfl; have hcz28_2 : w27.cell? ⟨gb155, 2, none⟩ = some (.string (⟨#[]⟩ : ByteArray)) := (blk_cell BK155.out 2).trans rfl; have hcz28_3 : w27.cell? ⟨gb155, 3, none⟩ = some (.bool false) := (blk_cell BK155.out 3).trans rfl; have hfz28_0 := blk_frozen BK155.out 0; have hfz28_1 := blk_frozen BK155.out 1; have hfz28_2 := blk_frozen BK155.out 2; have hfz28_3 := blk_frozen BK155.out 3))
      refine bodyPost_ret (results_ct rfl _ _ gb155 26 #[.int .i64 0, .int .i64 0, .string (⟨#[]⟩ : ByteArray), .bool false] (0, 0) _ rfl (by (with_reducible repeat (first | refine blk_drewN ?_ _ | refine blk_drew ?_ | refine blk_alloc ?_ _)); refine blk_put (cs := #[.int .i64 0, .int .i64 0, .string (⟨#[]⟩ : ByteArray), .bool false]) ?_ 3 _ rfl; (with_reducible repeat (first | refine blk_drewN ?_ _ | refine blk_drew ?_ | refine blk_alloc ?_ _)); refine blk_put (cs := #[.int .i64 0, .int .i64 0, .string (⟨#[]⟩ : ByteArray), .bool false]) ?_ 2 _ rfl; (with_reducible repeat (first | refine blk_drewN ?_ _ | refine blk_drew ?_ | refine blk_alloc ?_ _)); refine blk_put (cs := #[.int .i64 0, .int .i64 0, .string (⟨#[]⟩ : ByteArray), .bool false]) ?_ 1 _ rfl; (with_reducible repeat (first | refine blk_drewN ?_ _ | refine blk_drew ?_ | refine blk_alloc ?_ _)); refine blk_put (cs := #[.int .i64 0, .int .i64 0, .string (⟨#[]⟩ : ByteArray), .bool false]) ?_ 0 _ rfl; (with_reducible repeat (first | refine blk_drewN ?_ _ | refine blk_drew ?_ | refine blk_alloc ?_ _)); exact BK155.out) Tryd.underlying26 rfl (by kernel_rfl)) rfl ?_
      exact ⟨by first | rfl | (simp [errW_none, errW_some] <;> rfl) | (simp [*, errW_none, errW_some] <;> rfl), hbT HB.out⟩
  · replace c3 := Bool.eq_false_iff.mpr c3
    subst c3
    have H1 : (some (0, 0, (⟨#[]⟩ : ByteArray), false, 12)) = some (r1, r2, r3, r4, r5) := by rw [if_neg (show ¬ (false = true) by decide)] at H; exact H
    clear H
    have H := H1
    clear H1
    simp only [Option.some.injEq, Prod.mk.injEq] at H
    obtain ⟨rfl, rfl, rfl, rfl, rfl⟩ := H
    go_enter Tryd.func15, Tryd.ntmps15
    go_wp2_with (first | ((with_reducible refine gate_dst (N := 2) rfl ?_); refine box_event ?hg (N := 2) ?hd (cs := #[.int .i64 0, .int .i64 0, .string (⟨#[]⟩ : ByteArray), .bool false]) (t := 26) ?hr ?_; (case hd => rfl); (case hg => rfl); (case hr => first | (go_simp; done) | (go_simp; rfl)); intro gb155 hg w29 hbox hb; have BK155 := Aside0.mk hbox; have GW155 := geA hg HB; have GE155 := geA hg HB; replace HB := bsA HB hb; clear hb hbox hg) | ((with_reducible refine gate_callee (f := 35) rfl ?_); refine goesT (some 10) Tryd.func35 #[.string a0] ?_; (with_reducible refine (value_guess.calls k a0 t156 t157 t158 t159 false _ ?side1 ?side2 A2.out).mono ?_); (case side1 => first | (with_reducible exact HL_LErr) | exact ⟨LErr.below HL_LErr.out (hbT HB.out)⟩); (case side2 => first | (with_reducible exact HL_LSyn) | exact ⟨LSyn.below HL_LSyn.out (hbT HB.out)⟩); rintro e w30 ⟨rfl, hb⟩; refine ⟨_, rfl, ?_⟩; replace BK155 := bbA BK155 hb; replace HB := bsA HB hb; (try clear hb); (try clear hb2); (try clear hk); (try clear hi)) | ((with_reducible refine gate_dst (N := 4) rfl ?_); refine box_event ?hg (N := 4) ?hd (cs := #[.int .i64 0, .int .i64 0, .string (⟨#[]⟩ : ByteArray), .bool false]) (t := 26) ?hr ?_; (case hd => rfl); (case hg => rfl); (case hr => first | (go_simp; done) | (go_simp; rfl)); intro gb161 hg w31 hbox hb; have BK161 := Aside0.mk hbox; have GW161 := geA hg HB; have GE161 := geA hg HB; have NB155_161 := neA hg BK155; have NB161_155 := neB hg BK155; replace BK155 := bbA BK155 hb; replace HB := bsA HB hb; clear hb hbox hg; have hnb32 := NB161_155.out; have hnc32 := NB155_161.out; have hcz33_0 : w31.cell? ⟨gb161, 0, none⟩ = some (.int .i64 0) := (blk_cell BK161.out 0).trans rfl; have hcz33_1 : w31.cell? ⟨gb161, 1, none⟩ = some (.int .i64 0) := (blk_cell BK161.out 1).trans rfl; have hcz33_2 : w31.cell? ⟨gb161, 2, none⟩ = some (.string (⟨#[]⟩ : ByteArray)) := (blk_cell BK161.out 2).trans rfl; have hcz33_3 : w31.cell? ⟨gb161, 3, none⟩ = some (.bool false) := (blk_cell BK161.out 3).trans rfl; have hfz33_0 := blk_frozen BK161.out 0; have hfz33_1 := blk_frozen BK161.out 1; have hfz33_2 := blk_frozen BK161.out 2; have hfz33_3 := blk_frozen BK161.out 3; have hcz34_0 : w31.cell? ⟨gb155, 0, none⟩ = some (.int .i64 0) := (blk_cell BK155.out 0).trans rfl; have hcz34_1 : w31.cell? ⟨gb155, 1, none⟩ = some (.int .i64 0) := (blk_cell BK155.out 1).trans rfl; have hcz34_2 : w31.cell? ⟨gb155, 2, none⟩ = some (.string (⟨#[]⟩ : ByteArray)) := (blk_cell BK155.out 2).trans rfl; have hcz34_3 : w31.cell? ⟨gb155, 3, none⟩ = some (.bool false) := (blk_cell BK155.out 3).trans rfl; have hfz34_0 := blk_frozen BK155.out 0; have hfz34_1 := blk_frozen BK155.out 1; have hfz34_2 := blk_frozen BK155.out 2; have hfz34_3 := blk_frozen BK155.out 3))
    refine bodyPost_ret (results_ct rfl _ _ gb155 26 #[.int .i64 0, .int .i64 0, .string (⟨#[]⟩ : ByteArray), .bool false] (0, 0) _ rfl (by (with_reducible repeat (first | refine blk_drewN ?_ _ | refine blk_drew ?_ | refine blk_alloc ?_ _)); refine blk_put (cs := #[.int .i64 0, .int .i64 0, .string (⟨#[]⟩ : ByteArray), .bool false]) ?_ 3 _ rfl; (with_reducible repeat (first | refine blk_drewN ?_ _ | refine blk_drew ?_ | refine blk_alloc ?_ _)); refine blk_put (cs := #[.int .i64 0, .int .i64 0, .string (⟨#[]⟩ : ByteArray), .bool false]) ?_ 2 _ rfl; (with_reducible repeat (first | refine blk_drewN ?_ _ | refine blk_drew ?_ | refine blk_alloc ?_ _)); refine blk_put (cs := #[.int .i64 0, .int .i64 0, .string (⟨#[]⟩ : ByteArray), .bool false]) ?_ 1 _ rfl; (with_reducible repeat (first | refine blk_drewN ?_ _ | refine blk_drew ?_ | refine blk_alloc ?_ _)); refine blk_put (cs := #[.int .i64 0, .int .i64 0, .string (⟨#[]⟩ : ByteArray), .bool false]) ?_ 0 _ rfl; (with_reducible repeat (first | refine blk_drewN ?_ _ | refine blk_drew ?_ | refine blk_alloc ?_ _)); refine blk_far ?_ NB155_161.out _; (with_reducible repeat (first | refine blk_drewN ?_ _ | refine blk_drew ?_ | refine blk_alloc ?_ _)); refine blk_far ?_ NB155_161.out _; (with_reducible repeat (first | refine blk_drewN ?_ _ | refine blk_drew ?_ | refine blk_alloc ?_ _)); refine blk_far ?_ NB155_161.out _; (with_reducible repeat (first | refine blk_drewN ?_ _ | refine blk_drew ?_ | refine blk_alloc ?_ _)); refine blk_far ?_ NB155_161.out _; (with_reducible repeat (first | refine blk_drewN ?_ _ | refine blk_drew ?_ | refine blk_alloc ?_ _)); exact BK155.out) Tryd.underlying26 rfl (by kernel_rfl)) rfl ?_
    exact ⟨by first | rfl | (simp [errW_none, errW_some] <;> rfl) | (simp [*, errW_none, errW_some] <;> rfl), hbT HB.out⟩

/-! ### value_fits: function 67 -/
def value_fits.l0 : Nat → Int → Int → List (S26) → Int → Int → Option (Bool)
  | 0, _, _, _, _, _ => none
  | k + 1, x0, x5, x12, x13, x14 => if x14 < x13 then (if 0 ≤ x14 then (if x14 < (x12.length : Int) then (if ((rd_T26 x12 x14).f0) = x5 then (value_fits.l0 k x0 x5 x12 x13 (wrap64 (x14 + 1))) else (some false)) else (none)) else (none)) else (if x0 = 1 then (some (x5 == 1)) else (if x0 = 2 then (some (x5 == 3)) else (if x0 = 4 then (some (x5 != 3)) else (some true))))
def value_fits.f (k : Nat) (a0 : Int) (l1 : List (S26)) : Option (Bool) := if 0 < (l1.length : Int) then (value_fits.l0 k a0 ((rd_T26 l1 0).f0) l1 (l1.length : Int) 0) else (none)
set_option maxRecDepth 100000 in
theorem value_fits.l0_zero : ∀ y0 y1 y2 y3 y4, value_fits.l0 0 y0 y1 y2 y3 y4 = none := fun _ _ _ _ _ => rfl
set_option maxRecDepth 100000 in
theorem value_fits.mono_l : ∀ k, (∀ y0 y1 y2 y3 y4, LeO (value_fits.l0 k y0 y1 y2 y3 y4) (value_fits.l0 (k + 1) y0 y1 y2 y3 y4))
  | 0 => fun _ _ _ _ _ r h => by (unfold value_fits.l0 at h; cases h)
  | k + 1 => by
    have ih0 := value_fits.mono_l k
    · intro y0 y1 y2 y3 y4
      unfold value_fits.l0
      repeat' first
      | (with_reducible exact ih0 _ _ _ _ _)
      | (with_reducible exact LeO.refl _)
      | (with_reducible exact LeO.none _)
      | (with_reducible refine LeO.ite ?_ ?_)
      | (with_reducible refine LeO.bind ?_ (fun _ => ?_))
      | exact ih0 _ _ _ _ _
      | exact LeO.none _
      | refine LeO.ite ?_ ?_
      | refine LeO.bind ?_ (fun _ => ?_)
set_option maxRecDepth 100000 in
theorem value_fits.mono : ∀ a0 a1 k, LeO (value_fits.f k a0 a1) (value_fits.f (k + 1) a0 a1) := by
  intro a0 a1 k
  have ih0 := value_fits.mono_l k
  unfold value_fits.f
  repeat' first
      | (with_reducible exact ih0 _ _ _ _ _)
      | (with_reducible exact LeO.refl _)
      | (with_reducible exact LeO.none _)
      | (with_reducible refine LeO.ite ?_ ?_)
      | (with_reducible refine LeO.bind ?_ (fun _ => ?_))
      | exact ih0 _ _ _ _ _
      | exact LeO.none _
      | refine LeO.ite ?_ ?_
      | refine LeO.bind ?_ (fun _ => ?_)
set_option maxHeartbeats 8000000 in
set_option maxRecDepth 100000 in
theorem value_fits.calls (k : Nat) (a0 : Int) (A1 : Option Addr) (c1 : Nat) (l1 : List (S26)) (r : Bool) (w : World) (hr1 : Kd.C k26 w A1 l1.length l1) (hc1 : l1.length ≤ c1) (h : value_fits.f k a0 l1 = some r) :
    Calls Tryd.prog 67 #[.int .i64 a0, .slice A1 l1.length c1] w fun e w' => e = .returned (.bool r) ∧ Below w.heap.size w w' := by
  have hu26 := Tryd.underlying26
  have HR1 := Aside0.mk hr1
  have HC1 := Aside0.mk hc1
  clear hr1 hc1
  have HB := Aside0.mk (Below.refl w.heap.size w)
  have H : (if 0 < (l1.length : Int) then (value_fits.l0 k a0 ((rd_T26 l1 0).f0) l1 (l1.length : Int) 0) else (none)) = some r := h
  clear h
  by_cases c3 : 0 < (l1.length : Int)
  · rw [if_pos c3] at H
    have c3b0 : decide (0 < (l1.length : Int)) = true := decide_eq_true c3
    have c3b1 : decide (0 < l1.length) = true := decide_eq_true (by omega)
    clear c3
    have H' := Aside0.mk H
    clear H
    have p164 : 0 ≤ (0 : Int) := (by omega)
    have q164 : 0 < (l1.length : Int) := of_decide_eq_true (by first | (with_reducible assumption) | assumption)
    obtain ⟨ad164, e164, hx164_0, hx164_1, hx164_2, hx164_3⟩ := at_T26 HR1.out 0 p164 q164
    cases e164
    have qi164 : (0 < l1.length) = True := eq_true (by omega)
    (try rw [show ((0 : Int)).toNat = 0 from rfl] at hx164_0)
    (try rw [show 0 * 4 = 0 from rfl] at hx164_0)
    (try rw [Addr.add_zero'] at hx164_0)
    (try rw [show ((0 : Int)).toNat = 0 from rfl] at hx164_1)
    (try rw [show 0 * 4 = 0 from rfl] at hx164_1)
    (try rw [Addr.add_zero'] at hx164_1)
    (try rw [show ((0 : Int)).toNat = 0 from rfl] at hx164_2)
    (try rw [show 0 * 4 = 0 from rfl] at hx164_2)
    (try rw [Addr.add_zero'] at hx164_2)
    (try rw [show ((0 : Int)).toNat = 0 from rfl] at hx164_3)
    (try rw [show 0 * 4 = 0 from rfl] at hx164_3)
    (try rw [Addr.add_zero'] at hx164_3)
    replace p164 := eq_true p164
    replace q164 := eq_true q164
    go_enter Tryd.func67, Tryd.ntmps67
    go_wp2
    go_loopg [14] k (fun kq v14 w' => ∃ (x14_1 : Int), v14 = .int .i64 x14_1 ∧ Aside0 (value_fits.l0 kq a0 ((rd_T26 l1 0).f0) l1 (l1.length : Int) x14_1 = some r) ∧ Aside0 (kq ≤ k) ∧ Aside0 (Below w.heap.size w w'))
    case atStart => exact ⟨(0), (by first | rfl | (simp; done) | (simp [*]; done) | (simp; unfold wrap64; omega) | (congr 1; (try rw [Bool.eq_iff_iff]); simp [List.isEmpty_iff]; done)), H', ⟨Nat.le_refl _⟩, ⟨hbT HB.out⟩⟩
    case round =>
      clear H'
      try clear c1
      try clear p1
      try clear q1
      try clear hx1
      try clear qi1
      try clear p2
      try clear c3
      try clear c3b0
      try clear c3b1
      try clear hx164_0
      try clear hx164_1
      try clear hx164_2
      try clear hx164_3
      try clear p164
      try clear q164
      obtain ⟨x14_1, rfl, HA, HK1, HB⟩ := hrel
      cases gk with
      | zero => (have HA2 := HA.out; clear HA; revert HA2; rw [value_fits.l0_zero]; intro h_; cases h_)
      | succ k1 =>
        have H := HA.out
        clear HA
        simp only [value_fits.l0] at H
        by_cases c4 : x14_1 < (l1.length : Int)
        · rw [if_pos c4] at H
          have c4b0 : decide (x14_1 < (l1.length : Int)) = true := decide_eq_true c4
          clear c4
          by_cases c5 : 0 ≤ x14_1
          · rw [if_pos c5] at H
            have c5b0 : decide (0 ≤ x14_1) = true := decide_eq_true c5
            clear c5
            by_cases c6 : x14_1 < (l1.length : Int)
            · rw [if_pos c6] at H
              have c6b0 : decide (x14_1 < (l1.length : Int)) = true := decide_eq_true c6
              clear c6
              by_cases c7 : ((rd_T26 l1 x14_1).f0) = ((rd_T26 l1 0).f0)
              · rw [if_pos c7] at H
                have c7b0 : (((rd_T26 l1 x14_1).f0) == ((rd_T26 l1 0).f0)) = true := beq_iff_eq.mpr c7
                have c7b1 : (((rd_T26 l1 x14_1).f0) != ((rd_T26 l1 0).f0)) = false := bne_eq_false_iff_eq.mpr c7
                clear c7
                have H' := Aside0.mk H
                clear H
                have p165 : 0 ≤ (x14_1 : Int) := of_decide_eq_true (by first | (with_reducible assumption) | assumption)
                have q165 : x14_1 < (l1.length : Int) := of_decide_eq_true (by first | (with_reducible assumption) | assumption)
                obtain ⟨ad165, e165, hx165_0, hx165_1, hx165_2, hx165_3⟩ := at_T26 HR1.out x14_1 p165 q165
                obtain rfl : ad164 = ad165 := (by injection e165)
                replace hx165_0 := (HB.out.cell (World.block_lt_of_cell? w _ hx165_0)).trans hx165_0; replace hx165_1 := (HB.out.cell (World.block_lt_of_cell? w _ hx165_1)).trans hx165_1; replace hx165_2 := (HB.out.cell (World.block_lt_of_cell? w _ hx165_2)).trans hx165_2; replace hx165_3 := (HB.out.cell (World.block_lt_of_cell? w _ hx165_3)).trans hx165_3
                replace p165 := eq_true p165
                replace q165 := eq_true q165
                go_wp2_with (first | ((with_reducible refine gate_dst (N := 7) rfl ?_); refine box_event ?hg (N := 7) ?hd (cs := #[.int .i64 0, .int .i64 0, .string (⟨#[]⟩ : ByteArray), .bool false]) (t := 26) ?hr ?_; (case hd => rfl); (case hg => rfl); (case hr => first | (go_simp; done) | (go_simp; rfl)); intro gb166 hg w8 hbox hb; have BK166 := Aside0.mk hbox; have GW166 := geA hg HB; have GE166 := geA hg HB; replace HB := bsA HB hb; clear hb hbox hg; have hcz9_0 : w8.cell? ⟨gb166, 0, none⟩ = some (.int .i64 0) := (blk_cell BK166.out 0).trans rfl; have hcz9_1 : w8.cell? ⟨gb166, 1, none⟩ = some (.int .i64 0) := (blk_cell BK166.out 1).trans rfl; have hcz9_2 : w8.cell? ⟨gb166, 2, none⟩ = some (.string (⟨#[]⟩ : ByteArray)) := (blk_cell BK166.out 2).trans rfl; have hcz9_3 : w8.cell? ⟨gb166, 3, none⟩ = some (.bool false) := (blk_cell BK166.out 3).trans rfl; have hfz9_0 := blk_frozen BK166.out 0; have hfz9_1 := blk_frozen BK166.out 1; have hfz9_2 := blk_frozen BK166.out 2; have hfz9_3 := blk_frozen BK166.out 3))
                go_roundg k1
                case measure => have := HK1.out; omega
                case rel => exact ⟨(wrap64 (x14_1 + 1)), (by first | rfl | (simp; done) | (simp [*]; done) | (simp; unfold wrap64; omega) | (congr 1; (try rw [Bool.eq_iff_iff]); simp [List.isEmpty_iff]; done)), H', ⟨by have := HK1.out; omega⟩, ⟨hbT HB.out⟩⟩
              · rw [if_neg c7] at H
                have c7b0 : (((rd_T26 l1 x14_1).f0) == ((rd_T26 l1 0).f0)) = false := beq_eq_false_iff_ne.mpr c7
                have c7b1 : (((rd_T26 l1 x14_1).f0) != ((rd_T26 l1 0).f0)) = true := bne_iff_ne.mpr c7
                obtain rfl := Option.some.inj H
                have p165 : 0 ≤ (x14_1 : Int) := of_decide_eq_true (by first | (with_reducible assumption) | assumption)
                have q165 : x14_1 < (l1.length : Int) := of_decide_eq_true (by first | (with_reducible assumption) | assumption)
                obtain ⟨ad165, e165, hx165_0, hx165_1, hx165_2, hx165_3⟩ := at_T26 HR1.out x14_1 p165 q165
                obtain rfl : ad164 = ad165 := (by injection e165)
                replace hx165_0 := (HB.out.cell (World.block_lt_of_cell? w _ hx165_0)).trans hx165_0; replace hx165_1 := (HB.out.cell (World.block_lt_of_cell? w _ hx165_1)).trans hx165_1; replace hx165_2 := (HB.out.cell (World.block_lt_of_cell? w _ hx165_2)).trans hx165_2; replace hx165_3 := (HB.out.cell (World.block_lt_of_cell? w _ hx165_3)).trans hx165_3
                replace p165 := eq_true p165
                replace q165 := eq_true q165
                go_wp2_with (first | ((with_reducible refine gate_dst (N := 7) rfl ?_); refine box_event ?hg (N := 7) ?hd (cs := #[.int .i64 0, .int .i64 0, .string (⟨#[]⟩ : ByteArray), .bool false]) (t := 26) ?hr ?_; (case hd => rfl); (case hg => rfl); (case hr => first | (go_simp; done) | (go_simp; rfl)); intro gb166 hg w10 hbox hb; have BK166 := Aside0.mk hbox; have GW166 := geA hg HB; have GE166 := geA hg HB; replace HB := bsA HB hb; clear hb hbox hg; have hcz11_0 : w10.cell? ⟨gb166, 0, none⟩ = some (.int .i64 0) := (blk_cell BK166.out 0).trans rfl; have hcz11_1 : w10.cell? ⟨gb166, 1, none⟩ = some (.int .i64 0) := (blk_cell BK166.out 1).trans rfl; have hcz11_2 : w10.cell? ⟨gb166, 2, none⟩ = some (.string (⟨#[]⟩ : ByteArray)) := (blk_cell BK166.out 2).trans rfl; have hcz11_3 : w10.cell? ⟨gb166, 3, none⟩ = some (.bool false) := (blk_cell BK166.out 3).trans rfl; have hfz11_0 := blk_frozen BK166.out 0; have hfz11_1 := blk_frozen BK166.out 1; have hfz11_2 := blk_frozen BK166.out 2; have hfz11_3 := blk_frozen BK166.out 3))
                go_ret
                exact ⟨by first | rfl | (simp [errW_none, errW_some] <;> rfl) | (simp [*, errW_none, errW_some] <;> rfl), hbT HB.out⟩
            · rw [if_neg c6] at H
              exact absurd H (by simp)
          · rw [if_neg c5] at H
            exact absurd H (by simp)
        · rw [if_neg c4] at H
          have c4b0 : decide (x14_1 < (l1.length : Int)) = false := decide_eq_false c4
          clear c4
          by_cases c12 : a0 = 1
          · rw [if_pos c12] at H
            have c12b0 : (a0 == 1) = true := beq_iff_eq.mpr c12
            have c12b1 : (a0 != 1) = false := bne_eq_false_iff_eq.mpr c12
            clear c12
            obtain rfl := Option.some.inj H
            go_wp2
            go_ret
            exact ⟨by first | rfl | (simp [errW_none, errW_some] <;> rfl) | (simp [*, errW_none, errW_some] <;> rfl), hbT HB.out⟩
          · rw [if_neg c12] at H
            have c12b0 : (a0 == 1) = false := beq_eq_false_iff_ne.mpr c12
            have c12b1 : (a0 != 1) = true := bne_iff_ne.mpr c12
            by_cases c13 : a0 = 2
            · rw [if_pos c13] at H
              have c13b0 : (a0 == 2) = true := beq_iff_eq.mpr c13
              have c13b1 : (a0 != 2) = false := bne_eq_false_iff_eq.mpr c13
              clear c13
              obtain rfl := Option.some.inj H
              go_wp2
              go_ret
              exact ⟨by first | rfl | (simp [errW_none, errW_some] <;> rfl) | (simp [*, errW_none, errW_some] <;> rfl), hbT HB.out⟩
            · rw [if_neg c13] at H
              have c13b0 : (a0 == 2) = false := beq_eq_false_iff_ne.mpr c13
              have c13b1 : (a0 != 2) = true := bne_iff_ne.mpr c13
              by_cases c14 : a0 = 4
              · rw [if_pos c14] at H
                have c14b0 : (a0 == 4) = true := beq_iff_eq.mpr c14
                have c14b1 : (a0 != 4) = false := bne_eq_false_iff_eq.mpr c14
                clear c14
                obtain rfl := Option.some.inj H
                go_wp2
                go_ret
                exact ⟨by first | rfl | (simp [errW_none, errW_some] <;> rfl) | (simp [*, errW_none, errW_some] <;> rfl), hbT HB.out⟩
              · rw [if_neg c14] at H
                have c14b0 : (a0 == 4) = false := beq_eq_false_iff_ne.mpr c14
                have c14b1 : (a0 != 4) = true := bne_iff_ne.mpr c14
                obtain rfl := Option.some.inj H
                go_wp2
                go_ret
                exact ⟨by first | rfl | (simp [errW_none, errW_some] <;> rfl) | (simp [*, errW_none, errW_some] <;> rfl), hbT HB.out⟩
  · rw [if_neg c3] at H
    exact absurd H (by simp)

end Go.Proofs.YthhpeeckiggpaaaDoor.Pr

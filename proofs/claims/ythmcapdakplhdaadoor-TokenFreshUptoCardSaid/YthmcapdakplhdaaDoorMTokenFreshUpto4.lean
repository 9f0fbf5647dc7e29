/-
Part 4 of the proof of the law TokenFreshUpto: texts Prx23, Prx24, Prx25, Prx26, Prx27.
-/
import Derived.Test.YthmcapdakplhdaaDoorMTokenFreshUpto0
import Derived.Test.YthmcapdakplhdaaDoorMTokenFreshUpto2
import Derived.Test.YthmcapdakplhdaaDoorMTokenFreshUpto3
/-! ## text Prx23 -/
section
namespace Go.Proofs.YthmcapdakplhdaaDoor.Pr
open Go.RowKit Go.Proofs.YthmcapdakplhdaaDoorW.PrintWords Go.Proofs.YthmcapdakplhdaaDoorW.PrintLast Go.Proofs.YthmcapdakplhdaaDoorW.PrintMore
attribute [local go_sem] max2_int min2_int max_two min_two max_three min_three max_four min_four   -- for this text's walks alone
attribute [local go_sem high] Go.Proofs.YthmcapdakplhdaaDoor.isSome_setCell
set_option maxRecDepth 100000
set_option linter.unusedVariables false
set_option linter.unusedSimpArgs false

attribute [local go_sem high] eqA44
/-! ### refrainlaw5_begun: function 26 -/
def refrainlaw5_begun.f (k : Nat)  : Option (Bool) := (token_Scan.f k (⟨#[97, 46, 98, 32, 62, 61, 32, 49, 50]⟩ : ByteArray)).bind fun bt532 => ((token_Spell.f (([(⟨4, (⟨#[45]⟩ : ByteArray), 0⟩ : S44), (⟨4, (⟨#[45]⟩ : ByteArray), 0⟩ : S44), (⟨2, (⟨#[53]⟩ : ByteArray), 0⟩ : S44)] : List (S44)))).bind fun bt540 => (if bt532.2.2 = 0 then (if bt532.2.1 = 0 then (if (bt532.1.length : Int) = 6 then (if 3 < (bt532.1.length : Int) then (if (((rd_T44 bt532.1 3).f0) == 4 && ((((rd_T44 bt532.1 3).f1).toList) == ([62, 61] : List UInt8) && (((rd_T44 bt532.1 3).f2) == 4))) = true then (if bt540.2 = 0 then (if bt540.1.toList = ([45, 32, 45, 32, 53] : List UInt8) then ((token_Word.f (⟨#[83, 69, 81]⟩ : ByteArray)).bind fun t543 => (if t543 = true then ((token_Word.f (⟨#[115, 101, 113]⟩ : ByteArray)).bind fun t544 => (some (!t544))) else (some false))) else (some false)) else (some false)) else (some false)) else (none)) else (some false)) else (some false)) else (some false)))
set_option maxRecDepth 100000 in
theorem refrainlaw5_begun.mono : ∀ k, LeO (refrainlaw5_begun.f k ) (refrainlaw5_begun.f (k + 1) ) := by
  intro  k
  unfold refrainlaw5_begun.f
  repeat' first
      | (with_reducible exact token_Scan.mono _ _)
      | (with_reducible exact LeO.refl _)
      | (with_reducible exact LeO.none _)
      | (with_reducible refine LeO.ite ?_ ?_)
      | (with_reducible refine LeO.bind ?_ (fun _ => ?_))
      | exact token_Scan.mono _ _
      | exact LeO.none _
      | refine LeO.ite ?_ ?_
      | refine LeO.bind ?_ (fun _ => ?_)
set_option maxHeartbeats 8000000 in
set_option maxRecDepth 100000 in
theorem refrainlaw5_begun.calls (k : Nat)  (r : Bool) (w : World) (HL_LErr : Aside0 (LErr w)) (HL_LG0 : Aside0 (LG0 w)) (h : refrainlaw5_begun.f k  = some r) :
    Calls Tryd.prog 26 #[] w fun e w' => e = .returned (.bool r) ∧ Below w.heap.size w w' := by
  have hu44 := Tryd.underlying44
  have HB := Aside0.mk (Below.refl w.heap.size w)
  have H : ((token_Scan.f k (⟨#[97, 46, 98, 32, 62, 61, 32, 49, 50]⟩ : ByteArray)).bind fun bt532 => ((token_Spell.f (([(⟨4, (⟨#[45]⟩ : ByteArray), 0⟩ : S44), (⟨4, (⟨#[45]⟩ : ByteArray), 0⟩ : S44), (⟨2, (⟨#[53]⟩ : ByteArray), 0⟩ : S44)] : List (S44)))).bind fun bt540 => (if bt532.2.2 = 0 then (if bt532.2.1 = 0 then (if (bt532.1.length : Int) = 6 then (if 3 < (bt532.1.length : Int) then (if (((rd_T44 bt532.1 3).f0) == 4 && ((((rd_T44 bt532.1 3).f1).toList) == ([62, 61] : List UInt8) && (((rd_T44 bt532.1 3).f2) == 4))) = true then (if bt540.2 = 0 then (if bt540.1.toList = ([45, 32, 45, 32, 53] : List UInt8) then ((token_Word.f (⟨#[83, 69, 81]⟩ : ByteArray)).bind fun t543 => (if t543 = true then ((token_Word.f (⟨#[115, 101, 113]⟩ : ByteArray)).bind fun t544 => (some (!t544))) else (some false))) else (some false)) else (some false)) else (some false)) else (none)) else (some false)) else (some false)) else (some false)))) = some r := h
  clear h
  replace H := Option.bind_eq_some_iff.mp H
  obtain ⟨⟨t532, t533, t534⟩, A10, H⟩ := H
  replace H : ((token_Spell.f (([(⟨4, (⟨#[45]⟩ : ByteArray), 0⟩ : S44), (⟨4, (⟨#[45]⟩ : ByteArray), 0⟩ : S44), (⟨2, (⟨#[53]⟩ : ByteArray), 0⟩ : S44)] : List (S44)))).bind fun bt540 => (if t534 = 0 then (if t533 = 0 then (if (t532.length : Int) = 6 then (if 3 < (t532.length : Int) then (if (((rd_T44 t532 3).f0) == 4 && ((((rd_T44 t532 3).f1).toList) == ([62, 61] : List UInt8) && (((rd_T44 t532 3).f2) == 4))) = true then (if bt540.2 = 0 then (if bt540.1.toList = ([45, 32, 45, 32, 53] : List UInt8) then ((token_Word.f (⟨#[83, 69, 81]⟩ : ByteArray)).bind fun t543 => (if t543 = true then ((token_Word.f (⟨#[115, 101, 113]⟩ : ByteArray)).bind fun t544 => (some (!t544))) else (some false))) else (some false)) else (some false)) else (some false)) else (none)) else (some false)) else (some false)) else (some false))) = some r := H
  have A1 := Aside0.mk A10
  clear A10
  obtain ⟨y537, hy537⟩ : ∃ y_ : List (S44), y_ = (([(⟨4, (⟨#[45]⟩ : ByteArray), 0⟩ : S44), (⟨4, (⟨#[45]⟩ : ByteArray), 0⟩ : S44), (⟨2, (⟨#[53]⟩ : ByteArray), 0⟩ : S44)] : List (S44))) := ⟨_, rfl⟩
  replace H : ((token_Spell.f y537).bind fun bt540 => (if t534 = 0 then (if t533 = 0 then (if (t532.length : Int) = 6 then (if 3 < (t532.length : Int) then (if (((rd_T44 t532 3).f0) == 4 && ((((rd_T44 t532 3).f1).toList) == ([62, 61] : List UInt8) && (((rd_T44 t532 3).f2) == 4))) = true then (if bt540.2 = 0 then (if bt540.1.toList = ([45, 32, 45, 32, 53] : List UInt8) then ((token_Word.f (⟨#[83, 69, 81]⟩ : ByteArray)).bind fun t543 => (if t543 = true then ((token_Word.f (⟨#[115, 101, 113]⟩ : ByteArray)).bind fun t544 => (some (!t544))) else (some false))) else (some false)) else (some false)) else (some false)) else (none)) else (some false)) else (some false)) else (some false))) = some r := by first | (rw [hy537]; with_reducible exact H) | (have H2_ := (Option.bind_some _ _).symm.trans H; rw [hy537]; with_reducible exact H2_) | (have H2_ := (Option.bind_some _ _).symm.trans H; with_reducible exact H2_) | with_reducible exact H | (rw [hy537]; exact H) | exact H
  have Ny537 := Aside0.mk hy537
  clear hy537
  replace H := Option.bind_eq_some_iff.mp H
  obtain ⟨⟨t540, t541⟩, A20, H⟩ := H
  replace H : (if t534 = 0 then (if t533 = 0 then (if (t532.length : Int) = 6 then (if 3 < (t532.length : Int) then (if (((rd_T44 t532 3).f0) == 4 && ((((rd_T44 t532 3).f1).toList) == ([62, 61] : List UInt8) && (((rd_T44 t532 3).f2) == 4))) = true then (if t541 = 0 then (if t540.toList = ([45, 32, 45, 32, 53] : List UInt8) then ((token_Word.f (⟨#[83, 69, 81]⟩ : ByteArray)).bind fun t543 => (if t543 = true then ((token_Word.f (⟨#[115, 101, 113]⟩ : ByteArray)).bind fun t544 => (some (!t544))) else (some false))) else (some false)) else (some false)) else (some false)) else (none)) else (some false)) else (some false)) else (some false)) = some r := H
  have A2 := Aside0.mk A20
  clear A20
  by_cases c3 : t534 = 0
  · rw [if_pos c3] at H
    have c3b0 : (t534 == 0) = true := beq_iff_eq.mpr c3
    have c3b1 : (t534 != 0) = false := bne_eq_false_iff_eq.mpr c3
    clear c3
    by_cases c4 : t533 = 0
    · rw [if_pos c4] at H
      have c4b0 : (t533 == 0) = true := beq_iff_eq.mpr c4
      have c4b1 : (t533 != 0) = false := bne_eq_false_iff_eq.mpr c4
      clear c4
      by_cases c5 : (t532.length : Int) = 6
      · rw [if_pos c5] at H
        have c5b0 : ((t532.length : Int) == 6) = true := beq_iff_eq.mpr c5
        have c5b1 : ((t532.length : Int) != 6) = false := bne_eq_false_iff_eq.mpr c5
        clear c5
        by_cases c6 : 3 < (t532.length : Int)
        · rw [if_pos c6] at H
          have c6b0 : decide (3 < (t532.length : Int)) = true := decide_eq_true c6
          have c6b1 : decide (3 < t532.length) = true := decide_eq_true (by omega)
          clear c6
          by_cases c7 : (((rd_T44 t532 3).f0) == 4 && ((((rd_T44 t532 3).f1).toList) == ([62, 61] : List UInt8) && (((rd_T44 t532 3).f2) == 4))) = true
          · rw [if_pos c7] at H
            have c7b0 : (((rd_T44 t532 3).f0) == 4 && ((((rd_T44 t532 3).f1).toList) == ([62, 61] : List UInt8) && (((rd_T44 t532 3).f2) == 4))) = true := c7
            (try (have c7b5 := c7; simp only [Bool.and_eq_true, beq_iff_eq, Bool.not_eq_true', Bool.not_eq_true, bne_iff_ne, decide_eq_true_eq] at c7b5; replace c7b5 := Aside0.mk c7b5))
            (try (have c7b1 : decide (((rd_T44 t532 3).f0) = 4 && ((((rd_T44 t532 3).f1).toList) == ([62, 61] : List UInt8) && (((rd_T44 t532 3).f2) == 4))) = true := by simpa using c7))
            (try (have c7b2 : (((rd_T44 t532 3).f0) == 4 && ((((rd_T44 t532 3).f1).toList) == ([62, 61] : List UInt8) && (((rd_T44 t532 3).f2) == 4))) = true := by simpa using c7))
            clear c7
            by_cases c8 : t541 = 0
            · rw [if_pos c8] at H
              have c8b0 : (t541 == 0) = true := beq_iff_eq.mpr c8
              have c8b1 : (t541 != 0) = false := bne_eq_false_iff_eq.mpr c8
              clear c8
              by_cases c9 : t540.toList = ([45, 32, 45, 32, 53] : List UInt8)
              · rw [if_pos c9] at H
                have c9b0 : (t540.toList == ([45, 32, 45, 32, 53] : List UInt8)) = true := beq_iff_eq.mpr c9
                have c9b1 : (t540.toList != ([45, 32, 45, 32, 53] : List UInt8)) = false := bne_eq_false_iff_eq.mpr c9
                clear c9
                replace H := Option.bind_eq_some_iff.mp H
                obtain ⟨t543, A100, H⟩ := H
                replace H : (if t543 = true then ((token_Word.f (⟨#[115, 101, 113]⟩ : ByteArray)).bind fun t544 => (some (!t544))) else (some false)) = some r := H
                have A10 := Aside0.mk A100
                clear A100
                by_cases c11 : t543 = true
                · subst c11
                  have H1 : ((token_Word.f (⟨#[115, 101, 113]⟩ : ByteArray)).bind fun t544 => (some (!t544))) = some r := by rw [if_pos rfl] at H; exact H
                  clear H
                  have H := H1
                  clear H1
                  replace H := Option.bind_eq_some_iff.mp H
                  obtain ⟨t544, A120, H⟩ := H
                  replace H : (some (!t544)) = some r := H
                  have A12 := Aside0.mk A120
                  clear A120
                  obtain rfl := Option.some.inj H
                  go_enter Tryd.func26, Tryd.ntmps26
                  go_wp2_with (first | ((with_reducible refine gate_callee (f := 21) rfl ?_); refine goesT (some 7) Tryd.func21 #[.string (⟨#[97, 46, 98, 32, 62, 61, 32, 49, 50]⟩ : ByteArray)] ?_; (with_reducible refine (token_Scan.calls k (⟨#[97, 46, 98, 32, 62, 61, 32, 49, 50]⟩ : ByteArray) t532 t533 t534 _ ?side1 A1.out).mono ?_); (case side1 => first | (with_reducible exact HL_LErr) | exact ⟨LErr.below HL_LErr.out (hbT HB.out)⟩); rintro e w13 ⟨v535, rfl, ho0, hb⟩; refine ⟨_, rfl, ?_⟩; have HO536 := Aside0.mk (Kd.R_lower ho0 (below_size (hbT HB.out))); replace HB := bsA HB hb; (try clear hb); (try clear hb2); (try clear hk); (try clear hi); (try clear ho0)) | ((with_reducible refine gate_dst (N := 15) rfl ?_); (try (refine gate_guard (by rfl) ?_; dsimp only)); refine Kd.R_lit k44 _ 44 ?hg (N := 15) ?hd (xs := ([(⟨4, (⟨#[45]⟩ : ByteArray), 0⟩ : S44), (⟨4, (⟨#[45]⟩ : ByteArray), 0⟩ : S44), (⟨2, (⟨#[53]⟩ : ByteArray), 0⟩ : S44)] : List (S44))) (inner := [.int .i64 4, .string (⟨#[45]⟩ : ByteArray), .int .i64 0, .int .i64 4, .string (⟨#[45]⟩ : ByteArray), .int .i64 0, .int .i64 2, .string (⟨#[53]⟩ : ByteArray), .int .i64 0]) (ok := fun _ => True) (okp := fun _ => True) ?hr ?hp (fun _ hk => hk) trivial (Below.refl _ _) (Nat.le_refl _) (by simp) ?_; (case hd => rfl); (case hg => rfl); (case hr => first | (go_simp; done) | (go_simp; rfl)); (case hp => exact (Reps.c3 (show Kd.M k44 _ _ _ (⟨4, (⟨#[45]⟩ : ByteArray), 0⟩ : S44) [.int .i64 4, .string (⟨#[45]⟩ : ByteArray), .int .i64 0] from (k44_mkM _ _ _ (⟨4, (⟨#[45]⟩ : ByteArray), 0⟩ : S44) )) (Reps.c3 (show Kd.M k44 _ _ _ (⟨4, (⟨#[45]⟩ : ByteArray), 0⟩ : S44) [.int .i64 4, .string (⟨#[45]⟩ : ByteArray), .int .i64 0] from (k44_mkM _ _ _ (⟨4, (⟨#[45]⟩ : ByteArray), 0⟩ : S44) )) (Reps.c3 (show Kd.M k44 _ _ _ (⟨2, (⟨#[53]⟩ : ByteArray), 0⟩ : S44) [.int .i64 2, .string (⟨#[53]⟩ : ByteArray), .int .i64 0] from (k44_mkM _ _ _ (⟨2, (⟨#[53]⟩ : ByteArray), 0⟩ : S44) )) (Reps.none _ _))))); intro v538 w14 ho15 hb hg_ hnew_; clear hg_ hnew_; (first | rw [← Ny537.out] at ho15 | (simp only [Int.reduceToNat] at ho15; rw [← Ny537.out] at ho15)); have HO539 := Aside0.mk (Kd.R_lower (Kd.R_new' ho15 (Kd.R_lt (by (with_reducible repeat (first | apply Kd.R_alloc | apply Kd.R_drewN | apply Kd.R_drew)); exact HO536.out))) (below_size (hbT HB.out))); replace HO536 := Aside0.mk (Kd.R_elder' (by (with_reducible repeat (first | apply Kd.R_alloc | apply Kd.R_drewN | apply Kd.R_drew)); exact HO536.out) (Kd.R_base ho15) hb); replace HB := bsA HB hb; clear hb ho15; obtain ⟨Ao16, co16, eo16⟩ := Kd.R_slice HO539.out; subst eo16) | ((with_reducible refine gate_callee (f := 23) rfl ?_); refine goesT (some 16) Tryd.func23 #[.slice Ao16 y537.length co16] ?_; (with_reducible refine (token_Spell.calls _ _ y537 t540 t541 _ ?side1 ?side2 ?side3 A2.out).mono ?_); (case side1 => repeat (first | exact (Kd.R_reads' HO539.out).2.2 | (with_reducible refine Kd.C_alloc ?_ _) | (with_reducible refine Kd.C_drewN ?_ _) | (with_reducible refine Kd.C_drew ?_))); (case side2 => exact (Kd.R_reads' HO539.out).2.1); (case side3 => first | (with_reducible exact HL_LErr) | exact ⟨LErr.below HL_LErr.out (hbT HB.out)⟩); rintro e w17 ⟨rfl, hb⟩; refine ⟨_, rfl, ?_⟩; replace HO536 := Aside0.mk (Kd.R_below (by (with_reducible repeat (first | apply Kd.R_alloc | apply Kd.R_drewN | apply Kd.R_drew)); exact HO536.out) hb); replace HO539 := Aside0.mk (Kd.R_below (by (with_reducible repeat (first | apply Kd.R_alloc | apply Kd.R_drewN | apply Kd.R_drew)); exact HO539.out) hb); replace HB := bsA HB hb; (try clear hb); (try clear hb2); (try clear hk); (try clear hi); obtain ⟨Ao18, co18, eo18⟩ := Kd.R_slice HO536.out; subst eo18; have p542 : 0 ≤ (3 : Int) := (by omega); have q542 : 3 < (t532.length : Int) := of_decide_eq_true (by first | (with_reducible assumption) | assumption); obtain ⟨ad542, e542, hx542_0, hx542_1, hx542_2⟩ := at_T44 (Kd.R_reads' HO536.out).2.2 3 p542 q542; cases e542; (try simp only [show (3 : Int).toNat = 3 from rfl, Nat.reduceMul, Nat.reduceEqDiff, Go.Addr.add, ↓reduceIte] at hx542_0); (try simp only [show (3 : Int).toNat = 3 from rfl, Nat.reduceMul, Nat.reduceEqDiff, Go.Addr.add, ↓reduceIte] at hx542_1); (try simp only [show (3 : Int).toNat = 3 from rfl, Nat.reduceMul, Nat.reduceEqDiff, Go.Addr.add, ↓reduceIte] at hx542_2); have qi542 : (3 < t532.length) = True := eq_true (by omega); (try rw [show ((3 : Int)).toNat = 3 from rfl] at hx542_0); (try rw [show 3 * 3 = 9 from rfl] at hx542_0); (try rw [show ((3 : Int)).toNat = 3 from rfl] at hx542_1); (try rw [show 3 * 3 = 9 from rfl] at hx542_1); (try rw [show ((3 : Int)).toNat = 3 from rfl] at hx542_2); (try rw [show 3 * 3 = 9 from rfl] at hx542_2); replace p542 := eq_true p542; replace q542 := eq_true q542) | (go_at_call 54; (with_reducible refine (token_Word.calls (⟨#[83, 69, 81]⟩ : ByteArray) true _ ?side1 A10.out).mono ?_); (case side1 => first | (with_reducible exact HL_LG0) | exact ⟨LG0.below HL_LG0.out (hbT HB.out)⟩); rintro e w' ⟨rfl, ⟨nd, rfl⟩⟩) | (go_at_call 54; (with_reducible refine (token_Word.calls (⟨#[115, 101, 113]⟩ : ByteArray) t544 _ ?side1 A12.out).mono ?_); (case side1 => first | (with_reducible exact HL_LG0) | exact ⟨LG0.below HL_LG0.out (hbT HB.out)⟩); rintro e w' ⟨rfl, ⟨nd, rfl⟩⟩))
                  (try any_goals (exfalso; first | (have h_ := c7b5.out; contradiction)))
                  go_ret
                  exact ⟨by first | rfl | (simp [errW_none, errW_some] <;> rfl) | (simp [*, errW_none, errW_some] <;> rfl), hbT HB.out⟩
                · replace c11 := Bool.eq_false_iff.mpr c11
                  subst c11
                  have H1 : (some false) = some r := by rw [if_neg (show ¬ (false = true) by decide)] at H; exact H
                  clear H
                  have H := H1
                  clear H1
                  obtain rfl := Option.some.inj H
                  go_enter Tryd.func26, Tryd.ntmps26
                  go_wp2_with (first | ((with_reducible refine gate_callee (f := 21) rfl ?_); refine goesT (some 7) Tryd.func21 #[.string (⟨#[97, 46, 98, 32, 62, 61, 32, 49, 50]⟩ : ByteArray)] ?_; (with_reducible refine (token_Scan.calls k (⟨#[97, 46, 98, 32, 62, 61, 32, 49, 50]⟩ : ByteArray) t532 t533 t534 _ ?side1 A1.out).mono ?_); (case side1 => first | (with_reducible exact HL_LErr) | exact ⟨LErr.below HL_LErr.out (hbT HB.out)⟩); rintro e w19 ⟨v535, rfl, ho0, hb⟩; refine ⟨_, rfl, ?_⟩; have HO536 := Aside0.mk (Kd.R_lower ho0 (below_size (hbT HB.out))); replace HB := bsA HB hb; (try clear hb); (try clear hb2); (try clear hk); (try clear hi); (try clear ho0)) | ((with_reducible refine gate_dst (N := 15) rfl ?_); (try (refine gate_guard (by rfl) ?_; dsimp only)); refine Kd.R_lit k44 _ 44 ?hg (N := 15) ?hd (xs := ([(⟨4, (⟨#[45]⟩ : ByteArray), 0⟩ : S44), (⟨4, (⟨#[45]⟩ : ByteArray), 0⟩ : S44), (⟨2, (⟨#[53]⟩ : ByteArray), 0⟩ : S44)] : List (S44))) (inner := [.int .i64 4, .string (⟨#[45]⟩ : ByteArray), .int .i64 0, .int .i64 4, .string (⟨#[45]⟩ : ByteArray), .int .i64 0, .int .i64 2, .string (⟨#[53]⟩ : ByteArray), .int .i64 0]) (ok := fun _ => True) (okp := fun _ => True) ?hr ?hp (fun _ hk => hk) trivial (Below.refl _ _) (Nat.le_refl _) (by simp) ?_; (case hd => rfl); (case hg => rfl); (case hr => first | (go_simp; done) | (go_simp; rfl)); (case hp => exact (Reps.c3 (show Kd.M k44 _ _ _ (⟨4, (⟨#[45]⟩ : ByteArray), 0⟩ : S44) [.int .i64 4, .string (⟨#[45]⟩ : ByteArray), .int .i64 0] from (k44_mkM _ _ _ (⟨4, (⟨#[45]⟩ : ByteArray), 0⟩ : S44) )) (Reps.c3 (show Kd.M k44 _ _ _ (⟨4, (⟨#[45]⟩ : ByteArray), 0⟩ : S44) [.int .i64 4, .string (⟨#[45]⟩ : ByteArray), .int .i64 0] from (k44_mkM _ _ _ (⟨4, (⟨#[45]⟩ : ByteArray), 0⟩ : S44) )) (Reps.c3 (show Kd.M k44 _ _ _ (⟨2, (⟨#[53]⟩ : ByteArray), 0⟩ : S44) [.int .i64 2, .string (⟨#[53]⟩ : ByteArray), .int .i64 0] from (k44_mkM _ _ _ (⟨2, (⟨#[53]⟩ : ByteArray), 0⟩ : S44) )) (Reps.none _ _))))); intro v538 w20 ho21 hb hg_ hnew_; clear hg_ hnew_; (first | rw [← Ny537.out] at ho21 | (simp only [Int.reduceToNat] at ho21; rw [← Ny537.out] at ho21)); have HO539 := Aside0.mk (Kd.R_lower (Kd.R_new' ho21 (Kd.R_lt (by (with_reducible repeat (first | apply Kd.R_alloc | apply Kd.R_drewN | apply Kd.R_drew)); exact HO536.out))) (below_size (hbT HB.out))); replace HO536 := Aside0.mk (Kd.R_elder' (by (with_reducible repeat (first | apply Kd.R_alloc | apply Kd.R_drewN | apply Kd.R_drew)); exact HO536.out) (Kd.R_base ho21) hb); replace HB := bsA HB hb; clear hb ho21; obtain ⟨Ao22, co22, eo22⟩ := Kd.R_slice HO539.out; subst eo22) | ((with_reducible refine gate_callee (f := 23) rfl ?_); refine goesT (some 16) Tryd.func23 #[.slice Ao22 y537.length co22] ?_; (with_reducible refine (token_Spell.calls _ _ y537 t540 t541 _ ?side1 ?side2 ?side3 A2.out).mono ?_); (case side1 => repeat (first | exact (Kd.R_reads' HO539.out).2.2 | (with_reducible refine Kd.C_alloc ?_ _) | (with_reducible refine Kd.C_drewN ?_ _) | (with_reducible refine Kd.C_drew ?_))); (case side2 => exact (Kd.R_reads' HO539.out).2.1); (case side3 => first | (with_reducible exact HL_LErr) | exact ⟨LErr.below HL_LErr.out (hbT HB.out)⟩); rintro e w23 ⟨rfl, hb⟩; refine ⟨_, rfl, ?_⟩; replace HO536 := Aside0.mk (Kd.R_below (by (with_reducible repeat (first | apply Kd.R_alloc | apply Kd.R_drewN | apply Kd.R_drew)); exact HO536.out) hb); replace HO539 := Aside0.mk (Kd.R_below (by (with_reducible repeat (first | apply Kd.R_alloc | apply Kd.R_drewN | apply Kd.R_drew)); exact HO539.out) hb); replace HB := bsA HB hb; (try clear hb); (try clear hb2); (try clear hk); (try clear hi); obtain ⟨Ao24, co24, eo24⟩ := Kd.R_slice HO536.out; subst eo24; have p542 : 0 ≤ (3 : Int) := (by omega); have q542 : 3 < (t532.length : Int) := of_decide_eq_true (by first | (with_reducible assumption) | assumption); obtain ⟨ad542, e542, hx542_0, hx542_1, hx542_2⟩ := at_T44 (Kd.R_reads' HO536.out).2.2 3 p542 q542; cases e542; (try simp only [show (3 : Int).toNat = 3 from rfl, Nat.reduceMul, Nat.reduceEqDiff, Go.Addr.add, ↓reduceIte] at hx542_0); (try simp only [show (3 : Int).toNat = 3 from rfl, Nat.reduceMul, Nat.reduceEqDiff, Go.Addr.add, ↓reduceIte] at hx542_1); (try simp only [show (3 : Int).toNat = 3 from rfl, Nat.reduceMul, Nat.reduceEqDiff, Go.Addr.add, ↓reduceIte] at hx542_2); have qi542 : (3 < t532.length) = True := eq_true (by omega); (try rw [show ((3 : Int)).toNat = 3 from rfl] at hx542_0); (try rw [show 3 * 3 = 9 from rfl] at hx542_0); (try rw [show ((3 : Int)).toNat = 3 from rfl] at hx542_1); (try rw [show 3 * 3 = 9 from rfl] at hx542_1); (try rw [show ((3 : Int)).toNat = 3 from rfl] at hx542_2); (try rw [show 3 * 3 = 9 from rfl] at hx542_2); replace p542 := eq_true p542; replace q542 := eq_true q542) | (go_at_call 54; (with_reducible refine (token_Word.calls (⟨#[83, 69, 81]⟩ : ByteArray) false _ ?side1 A10.out).mono ?_); (case side1 => first | (with_reducible exact HL_LG0) | exact ⟨LG0.below HL_LG0.out (hbT HB.out)⟩); rintro e w' ⟨rfl, ⟨nd, rfl⟩⟩))
                  (try any_goals (exfalso; first | (have h_ := c7b5.out; contradiction)))
                  go_ret
                  exact ⟨by first | rfl | (simp [errW_none, errW_some] <;> rfl) | (simp [*, errW_none, errW_some] <;> rfl), hbT HB.out⟩
              · rw [if_neg c9] at H
                have c9b0 : (t540.toList == ([45, 32, 45, 32, 53] : List UInt8)) = false := beq_eq_false_iff_ne.mpr c9
                have c9b1 : (t540.toList != ([45, 32, 45, 32, 53] : List UInt8)) = true := bne_iff_ne.mpr c9
                obtain rfl := Option.some.inj H
                go_enter Tryd.func26, Tryd.ntmps26
                go_wp2_with (first | ((with_reducible refine gate_callee (f := 21) rfl ?_); refine goesT (some 7) Tryd.func21 #[.string (⟨#[97, 46, 98, 32, 62, 61, 32, 49, 50]⟩ : ByteArray)] ?_; (with_reducible refine (token_Scan.calls k (⟨#[97, 46, 98, 32, 62, 61, 32, 49, 50]⟩ : ByteArray) t532 t533 t534 _ ?side1 A1.out).mono ?_); (case side1 => first | (with_reducible exact HL_LErr) | exact ⟨LErr.below HL_LErr.out (hbT HB.out)⟩); rintro e w25 ⟨v535, rfl, ho0, hb⟩; refine ⟨_, rfl, ?_⟩; have HO536 := Aside0.mk (Kd.R_lower ho0 (below_size (hbT HB.out))); replace HB := bsA HB hb; (try clear hb); (try clear hb2); (try clear hk); (try clear hi); (try clear ho0)) | ((with_reducible refine gate_dst (N := 15) rfl ?_); (try (refine gate_guard (by rfl) ?_; dsimp only)); refine Kd.R_lit k44 _ 44 ?hg (N := 15) ?hd (xs := ([(⟨4, (⟨#[45]⟩ : ByteArray), 0⟩ : S44), (⟨4, (⟨#[45]⟩ : ByteArray), 0⟩ : S44), (⟨2, (⟨#[53]⟩ : ByteArray), 0⟩ : S44)] : List (S44))) (inner := [.int .i64 4, .string (⟨#[45]⟩ : ByteArray), .int .i64 0, .int .i64 4, .string (⟨#[45]⟩ : ByteArray), .int .i64 0, .int .i64 2, .string (⟨#[53]⟩ : ByteArray), .int .i64 0]) (ok := fun _ => True) (okp := fun _ => True) ?hr ?hp (fun _ hk => hk) trivial (Below.refl _ _) (Nat.le_refl _) (by simp) ?_; (case hd => rfl); (case hg => rfl); (case hr => first | (go_simp; done) | (go_simp; rfl)); (case hp => exact (Reps.c3 (show Kd.M k44 _ _ _ (⟨4, (⟨#[45]⟩ : ByteArray), 0⟩ : S44) [.int .i64 4, .string (⟨#[45]⟩ : ByteArray), .int .i64 0] from (k44_mkM _ _ _ (⟨4, (⟨#[45]⟩ : ByteArray), 0⟩ : S44) )) (Reps.c3 (show Kd.M k44 _ _ _ (⟨4, (⟨#[45]⟩ : ByteArray), 0⟩ : S44) [.int .i64 4, .string (⟨#[45]⟩ : ByteArray), .int .i64 0] from (k44_mkM _ _ _ (⟨4, (⟨#[45]⟩ : ByteArray), 0⟩ : S44) )) (Reps.c3 (show Kd.M k44 _ _ _ (⟨2, (⟨#[53]⟩ : ByteArray), 0⟩ : S44) [.int .i64 2, .string (⟨#[53]⟩ : ByteArray), .int .i64 0] from (k44_mkM _ _ _ (⟨2, (⟨#[53]⟩ : ByteArray), 0⟩ : S44) )) (Reps.none _ _))))); intro v538 w26 ho27 hb hg_ hnew_; clear hg_ hnew_; (first | rw [← Ny537.out] at ho27 | (simp only [Int.reduceToNat] at ho27; rw [← Ny537.out] at ho27)); have HO539 := Aside0.mk (Kd.R_lower (Kd.R_new' ho27 (Kd.R_lt (by (with_reducible repeat (first | apply Kd.R_alloc | apply Kd.R_drewN | apply Kd.R_drew)); exact HO536.out))) (below_size (hbT HB.out))); replace HO536 := Aside0.mk (Kd.R_elder' (by (with_reducible repeat (first | apply Kd.R_alloc | apply Kd.R_drewN | apply Kd.R_drew)); exact HO536.out) (Kd.R_base ho27) hb); replace HB := bsA HB hb; clear hb ho27; obtain ⟨Ao28, co28, eo28⟩ := Kd.R_slice HO539.out; subst eo28) | ((with_reducible refine gate_callee (f := 23) rfl ?_); refine goesT (some 16) Tryd.func23 #[.slice Ao28 y537.length co28] ?_; (with_reducible refine (token_Spell.calls _ _ y537 t540 t541 _ ?side1 ?side2 ?side3 A2.out).mono ?_); (case side1 => repeat (first | exact (Kd.R_reads' HO539.out).2.2 | (with_reducible refine Kd.C_alloc ?_ _) | (with_reducible refine Kd.C_drewN ?_ _) | (with_reducible refine Kd.C_drew ?_))); (case side2 => exact (Kd.R_reads' HO539.out).2.1); (case side3 => first | (with_reducible exact HL_LErr) | exact ⟨LErr.below HL_LErr.out (hbT HB.out)⟩); rintro e w29 ⟨rfl, hb⟩; refine ⟨_, rfl, ?_⟩; replace HO536 := Aside0.mk (Kd.R_below (by (with_reducible repeat (first | apply Kd.R_alloc | apply Kd.R_drewN | apply Kd.R_drew)); exact HO536.out) hb); replace HO539 := Aside0.mk (Kd.R_below (by (with_reducible repeat (first | apply Kd.R_alloc | apply Kd.R_drewN | apply Kd.R_drew)); exact HO539.out) hb); replace HB := bsA HB hb; (try clear hb); (try clear hb2); (try clear hk); (try clear hi); obtain ⟨Ao30, co30, eo30⟩ := Kd.R_slice HO536.out; subst eo30; have p542 : 0 ≤ (3 : Int) := (by omega); have q542 : 3 < (t532.length : Int) := of_decide_eq_true (by first | (with_reducible assumption) | assumption); obtain ⟨ad542, e542, hx542_0, hx542_1, hx542_2⟩ := at_T44 (Kd.R_reads' HO536.out).2.2 3 p542 q542; cases e542; (try simp only [show (3 : Int).toNat = 3 from rfl, Nat.reduceMul, Nat.reduceEqDiff, Go.Addr.add, ↓reduceIte] at hx542_0); (try simp only [show (3 : Int).toNat = 3 from rfl, Nat.reduceMul, Nat.reduceEqDiff, Go.Addr.add, ↓reduceIte] at hx542_1); (try simp only [show (3 : Int).toNat = 3 from rfl, Nat.reduceMul, Nat.reduceEqDiff, Go.Addr.add, ↓reduceIte] at hx542_2); have qi542 : (3 < t532.length) = True := eq_true (by omega); (try rw [show ((3 : Int)).toNat = 3 from rfl] at hx542_0); (try rw [show 3 * 3 = 9 from rfl] at hx542_0); (try rw [show ((3 : Int)).toNat = 3 from rfl] at hx542_1); (try rw [show 3 * 3 = 9 from rfl] at hx542_1); (try rw [show ((3 : Int)).toNat = 3 from rfl] at hx542_2); (try rw [show 3 * 3 = 9 from rfl] at hx542_2); replace p542 := eq_true p542; replace q542 := eq_true q542))
                (try any_goals (exfalso; first | (have h_ := c7b5.out; contradiction)))
                go_ret
                exact ⟨by first | rfl | (simp [errW_none, errW_some] <;> rfl) | (simp [*, errW_none, errW_some] <;> rfl), hbT HB.out⟩
            · rw [if_neg c8] at H
              have c8b0 : (t541 == 0) = false := beq_eq_false_iff_ne.mpr c8
              have c8b1 : (t541 != 0) = true := bne_iff_ne.mpr c8
              obtain rfl := Option.some.inj H
              go_enter Tryd.func26, Tryd.ntmps26
              go_wp2_with (first | ((with_reducible refine gate_callee (f := 21) rfl ?_); refine goesT (some 7) Tryd.func21 #[.string (⟨#[97, 46, 98, 32, 62, 61, 32, 49, 50]⟩ : ByteArray)] ?_; (with_reducible refine (token_Scan.calls k (⟨#[97, 46, 98, 32, 62, 61, 32, 49, 50]⟩ : ByteArray) t532 t533 t534 _ ?side1 A1.out).mono ?_); (case side1 => first | (with_reducible exact HL_LErr) | exact ⟨LErr.below HL_LErr.out (hbT HB.out)⟩); rintro e w31 ⟨v535, rfl, ho0, hb⟩; refine ⟨_, rfl, ?_⟩; have HO536 := Aside0.mk (Kd.R_lower ho0 (below_size (hbT HB.out))); replace HB := bsA HB hb; (try clear hb); (try clear hb2); (try clear hk); (try clear hi); (try clear ho0)) | ((with_reducible refine gate_dst (N := 15) rfl ?_); (try (refine gate_guard (by rfl) ?_; dsimp only)); refine Kd.R_lit k44 _ 44 ?hg (N := 15) ?hd (xs := ([(⟨4, (⟨#[45]⟩ : ByteArray), 0⟩ : S44), (⟨4, (⟨#[45]⟩ : ByteArray), 0⟩ : S44), (⟨2, (⟨#[53]⟩ : ByteArray), 0⟩ : S44)] : List (S44))) (inner := [.int .i64 4, .string (⟨#[45]⟩ : ByteArray), .int .i64 0, .int .i64 4, .string (⟨#[45]⟩ : ByteArray), .int .i64 0, .int .i64 2, .string (⟨#[53]⟩ : ByteArray), .int .i64 0]) (ok := fun _ => True) (okp := fun _ => True) ?hr ?hp (fun _ hk => hk) trivial (Below.refl _ _) (Nat.le_refl _) (by simp) ?_; (case hd => rfl); (case hg => rfl); (case hr => first | (go_simp; done) | (go_simp; rfl)); (case hp => exact (Reps.c3 (show Kd.M k44 _ _ _ (⟨4, (⟨#[45]⟩ : ByteArray), 0⟩ : S44) [.int .i64 4, .string (⟨#[45]⟩ : ByteArray), .int .i64 0] from (k44_mkM _ _ _ (⟨4, (⟨#[45]⟩ : ByteArray), 0⟩ : S44) )) (Reps.c3 (show Kd.M k44 _ _ _ (⟨4, (⟨#[45]⟩ : ByteArray), 0⟩ : S44) [.int .i64 4, .string (⟨#[45]⟩ : ByteArray), .int .i64 0] from (k44_mkM _ _ _ (⟨4, (⟨#[45]⟩ : ByteArray), 0⟩ : S44) )) (Reps.c3 (show Kd.M k44 _ _ _ (⟨2, (⟨#[53]⟩ : ByteArray), 0⟩ : S44) [.int .i64 2, .string (⟨#[53]⟩ : ByteArray), .int .i64 0] from (k44_mkM _ _ _ (⟨2, (⟨#[53]⟩ : ByteArray), 0⟩ : S44) )) (Reps.none _ _))))); intro v538 w32 ho33 hb hg_ hnew_; clear hg_ hnew_; (first | rw [← Ny537.out] at ho33 | (simp only [Int.reduceToNat] at ho33; rw [← Ny537.out] at ho33)); have HO539 := Aside0.mk (Kd.R_lower (Kd.R_new' ho33 (Kd.R_lt (by (with_reducible repeat (first | apply Kd.R_alloc | apply Kd.R_drewN | apply Kd.R_drew)); exact HO536.out))) (below_size (hbT HB.out))); replace HO536 := Aside0.mk (Kd.R_elder' (by (with_reducible repeat (first | apply Kd.R_alloc | apply Kd.R_drewN | apply Kd.R_drew)); exact HO536.out) (Kd.R_base ho33) hb); replace HB := bsA HB hb; clear hb ho33; obtain ⟨Ao34, co34, eo34⟩ := Kd.R_slice HO539.out; subst eo34) | ((with_reducible refine gate_callee (f := 23) rfl ?_); refine goesT (some 16) Tryd.func23 #[.slice Ao34 y537.length co34] ?_; (with_reducible refine (token_Spell.calls _ _ y537 t540 t541 _ ?side1 ?side2 ?side3 A2.out).mono ?_); (case side1 => repeat (first | exact (Kd.R_reads' HO539.out).2.2 | (with_reducible refine Kd.C_alloc ?_ _) | (with_reducible refine Kd.C_drewN ?_ _) | (with_reducible refine Kd.C_drew ?_))); (case side2 => exact (Kd.R_reads' HO539.out).2.1); (case side3 => first | (with_reducible exact HL_LErr) | exact ⟨LErr.below HL_LErr.out (hbT HB.out)⟩); rintro e w35 ⟨rfl, hb⟩; refine ⟨_, rfl, ?_⟩; replace HO536 := Aside0.mk (Kd.R_below (by (with_reducible repeat (first | apply Kd.R_alloc | apply Kd.R_drewN | apply Kd.R_drew)); exact HO536.out) hb); replace HO539 := Aside0.mk (Kd.R_below (by (with_reducible repeat (first | apply Kd.R_alloc | apply Kd.R_drewN | apply Kd.R_drew)); exact HO539.out) hb); replace HB := bsA HB hb; (try clear hb); (try clear hb2); (try clear hk); (try clear hi); obtain ⟨Ao36, co36, eo36⟩ := Kd.R_slice HO536.out; subst eo36; have p542 : 0 ≤ (3 : Int) := (by omega); have q542 : 3 < (t532.length : Int) := of_decide_eq_true (by first | (with_reducible assumption) | assumption); obtain ⟨ad542, e542, hx542_0, hx542_1, hx542_2⟩ := at_T44 (Kd.R_reads' HO536.out).2.2 3 p542 q542; cases e542; (try simp only [show (3 : Int).toNat = 3 from rfl, Nat.reduceMul, Nat.reduceEqDiff, Go.Addr.add, ↓reduceIte] at hx542_0); (try simp only [show (3 : Int).toNat = 3 from rfl, Nat.reduceMul, Nat.reduceEqDiff, Go.Addr.add, ↓reduceIte] at hx542_1); (try simp only [show (3 : Int).toNat = 3 from rfl, Nat.reduceMul, Nat.reduceEqDiff, Go.Addr.add, ↓reduceIte] at hx542_2); have qi542 : (3 < t532.length) = True := eq_true (by omega); (try rw [show ((3 : Int)).toNat = 3 from rfl] at hx542_0); (try rw [show 3 * 3 = 9 from rfl] at hx542_0); (try rw [show ((3 : Int)).toNat = 3 from rfl] at hx542_1); (try rw [show 3 * 3 = 9 from rfl] at hx542_1); (try rw [show ((3 : Int)).toNat = 3 from rfl] at hx542_2); (try rw [show 3 * 3 = 9 from rfl] at hx542_2); replace p542 := eq_true p542; replace q542 := eq_true q542))
              (try any_goals (exfalso; first | (have h_ := c7b5.out; contradiction)))
              go_ret
              exact ⟨by first | rfl | (simp [errW_none, errW_some] <;> rfl) | (simp [*, errW_none, errW_some] <;> rfl), hbT HB.out⟩
          · rw [if_neg c7] at H
            have c7b0 : (((rd_T44 t532 3).f0) == 4 && ((((rd_T44 t532 3).f1).toList) == ([62, 61] : List UInt8) && (((rd_T44 t532 3).f2) == 4))) = false := by simpa using c7
            (try (have c7b5 := c7; simp only [Bool.and_eq_true, beq_iff_eq, Bool.not_eq_true', Bool.not_eq_true, bne_iff_ne, decide_eq_true_eq] at c7b5; replace c7b5 := Aside0.mk c7b5))
            (try (have c7b1 : decide (((rd_T44 t532 3).f0) = 4 && ((((rd_T44 t532 3).f1).toList) == ([62, 61] : List UInt8) && (((rd_T44 t532 3).f2) == 4))) = false := by simpa using c7))
            (try (have c7b2 : (((rd_T44 t532 3).f0) == 4 && ((((rd_T44 t532 3).f1).toList) == ([62, 61] : List UInt8) && (((rd_T44 t532 3).f2) == 4))) = false := by simpa using c7))
            (try (have c7b3 : ¬ (((rd_T44 t532 3).f0) = 4 && ((((rd_T44 t532 3).f1).toList) == ([62, 61] : List UInt8) && (((rd_T44 t532 3).f2) == 4))) := by simpa using c7))
            clear c7
            obtain rfl := Option.some.inj H
            go_enter Tryd.func26, Tryd.ntmps26
            go_wp2_with (first | ((with_reducible refine gate_callee (f := 21) rfl ?_); refine goesT (some 7) Tryd.func21 #[.string (⟨#[97, 46, 98, 32, 62, 61, 32, 49, 50]⟩ : ByteArray)] ?_; (with_reducible refine (token_Scan.calls k (⟨#[97, 46, 98, 32, 62, 61, 32, 49, 50]⟩ : ByteArray) t532 t533 t534 _ ?side1 A1.out).mono ?_); (case side1 => first | (with_reducible exact HL_LErr) | exact ⟨LErr.below HL_LErr.out (hbT HB.out)⟩); rintro e w37 ⟨v535, rfl, ho0, hb⟩; refine ⟨_, rfl, ?_⟩; have HO536 := Aside0.mk (Kd.R_lower ho0 (below_size (hbT HB.out))); replace HB := bsA HB hb; (try clear hb); (try clear hb2); (try clear hk); (try clear hi); (try clear ho0)) | ((with_reducible refine gate_dst (N := 15) rfl ?_); (try (refine gate_guard (by rfl) ?_; dsimp only)); refine Kd.R_lit k44 _ 44 ?hg (N := 15) ?hd (xs := ([(⟨4, (⟨#[45]⟩ : ByteArray), 0⟩ : S44), (⟨4, (⟨#[45]⟩ : ByteArray), 0⟩ : S44), (⟨2, (⟨#[53]⟩ : ByteArray), 0⟩ : S44)] : List (S44))) (inner := [.int .i64 4, .string (⟨#[45]⟩ : ByteArray), .int .i64 0, .int .i64 4, .string (⟨#[45]⟩ : ByteArray), .int .i64 0, .int .i64 2, .string (⟨#[53]⟩ : ByteArray), .int .i64 0]) (ok := fun _ => True) (okp := fun _ => True) ?hr ?hp (fun _ hk => hk) trivial (Below.refl _ _) (Nat.le_refl _) (by simp) ?_; (case hd => rfl); (case hg => rfl); (case hr => first | (go_simp; done) | (go_simp; rfl)); (case hp => exact (Reps.c3 (show Kd.M k44 _ _ _ (⟨4, (⟨#[45]⟩ : ByteArray), 0⟩ : S44) [.int .i64 4, .string (⟨#[45]⟩ : ByteArray), .int .i64 0] from (k44_mkM _ _ _ (⟨4, (⟨#[45]⟩ : ByteArray), 0⟩ : S44) )) (Reps.c3 (show Kd.M k44 _ _ _ (⟨4, (⟨#[45]⟩ : ByteArray), 0⟩ : S44) [.int .i64 4, .string (⟨#[45]⟩ : ByteArray), .int .i64 0] from (k44_mkM _ _ _ (⟨4, (⟨#[45]⟩ : ByteArray), 0⟩ : S44) )) (Reps.c3 (show Kd.M k44 _ _ _ (⟨2, (⟨#[53]⟩ : ByteArray), 0⟩ : S44) [.int .i64 2, .string (⟨#[53]⟩ : ByteArray), .int .i64 0] from (k44_mkM _ _ _ (⟨2, (⟨#[53]⟩ : ByteArray), 0⟩ : S44) )) (Reps.none _ _))))); intro v538 w38 ho39 hb hg_ hnew_; clear hg_ hnew_; (first | rw [← Ny537.out] at ho39 | (simp only [Int.reduceToNat] at ho39; rw [← Ny537.out] at ho39)); have HO539 := Aside0.mk (Kd.R_lower (Kd.R_new' ho39 (Kd.R_lt (by (with_reducible repeat (first | apply Kd.R_alloc | apply Kd.R_drewN | apply Kd.R_drew)); exact HO536.out))) (below_size (hbT HB.out))); replace HO536 := Aside0.mk (Kd.R_elder' (by (with_reducible repeat (first | apply Kd.R_alloc | apply Kd.R_drewN | apply Kd.R_drew)); exact HO536.out) (Kd.R_base ho39) hb); replace HB := bsA HB hb; clear hb ho39; obtain ⟨Ao40, co40, eo40⟩ := Kd.R_slice HO539.out; subst eo40) | ((with_reducible refine gate_callee (f := 23) rfl ?_); refine goesT (some 16) Tryd.func23 #[.slice Ao40 y537.length co40] ?_; (with_reducible refine (token_Spell.calls _ _ y537 t540 t541 _ ?side1 ?side2 ?side3 A2.out).mono ?_); (case side1 => repeat (first | exact (Kd.R_reads' HO539.out).2.2 | (with_reducible refine Kd.C_alloc ?_ _) | (with_reducible refine Kd.C_drewN ?_ _) | (with_reducible refine Kd.C_drew ?_))); (case side2 => exact (Kd.R_reads' HO539.out).2.1); (case side3 => first | (with_reducible exact HL_LErr) | exact ⟨LErr.below HL_LErr.out (hbT HB.out)⟩); rintro e w41 ⟨rfl, hb⟩; refine ⟨_, rfl, ?_⟩; replace HO536 := Aside0.mk (Kd.R_below (by (with_reducible repeat (first | apply Kd.R_alloc | apply Kd.R_drewN | apply Kd.R_drew)); exact HO536.out) hb); replace HO539 := Aside0.mk (Kd.R_below (by (with_reducible repeat (first | apply Kd.R_alloc | apply Kd.R_drewN | apply Kd.R_drew)); exact HO539.out) hb); replace HB := bsA HB hb; (try clear hb); (try clear hb2); (try clear hk); (try clear hi); obtain ⟨Ao42, co42, eo42⟩ := Kd.R_slice HO536.out; subst eo42; have p542 : 0 ≤ (3 : Int) := (by omega); have q542 : 3 < (t532.length : Int) := of_decide_eq_true (by first | (with_reducible assumption) | assumption); obtain ⟨ad542, e542, hx542_0, hx542_1, hx542_2⟩ := at_T44 (Kd.R_reads' HO536.out).2.2 3 p542 q542; cases e542; (try simp only [show (3 : Int).toNat = 3 from rfl, Nat.reduceMul, Nat.reduceEqDiff, Go.Addr.add, ↓reduceIte] at hx542_0); (try simp only [show (3 : Int).toNat = 3 from rfl, Nat.reduceMul, Nat.reduceEqDiff, Go.Addr.add, ↓reduceIte] at hx542_1); (try simp only [show (3 : Int).toNat = 3 from rfl, Nat.reduceMul, Nat.reduceEqDiff, Go.Addr.add, ↓reduceIte] at hx542_2); have qi542 : (3 < t532.length) = True := eq_true (by omega); (try rw [show ((3 : Int)).toNat = 3 from rfl] at hx542_0); (try rw [show 3 * 3 = 9 from rfl] at hx542_0); (try rw [show ((3 : Int)).toNat = 3 from rfl] at hx542_1); (try rw [show 3 * 3 = 9 from rfl] at hx542_1); (try rw [show ((3 : Int)).toNat = 3 from rfl] at hx542_2); (try rw [show 3 * 3 = 9 from rfl] at hx542_2); replace p542 := eq_true p542; replace q542 := eq_true q542))
            (try any_goals (exfalso; first | (have h_ := c7b5.out; contradiction)))
            go_ret
            exact ⟨by first | rfl | (simp [errW_none, errW_some] <;> rfl) | (simp [*, errW_none, errW_some] <;> rfl), hbT HB.out⟩
        · rw [if_neg c6] at H
          exact absurd H (by simp)
      · rw [if_neg c5] at H
        have c5b0 : ((t532.length : Int) == 6) = false := beq_eq_false_iff_ne.mpr c5
        have c5b1 : ((t532.length : Int) != 6) = true := bne_iff_ne.mpr c5
        obtain rfl := Option.some.inj H
        go_enter Tryd.func26, Tryd.ntmps26
        go_wp2_with (first | ((with_reducible refine gate_callee (f := 21) rfl ?_); refine goesT (some 7) Tryd.func21 #[.string (⟨#[97, 46, 98, 32, 62, 61, 32, 49, 50]⟩ : ByteArray)] ?_; (with_reducible refine (token_Scan.calls k (⟨#[97, 46, 98, 32, 62, 61, 32, 49, 50]⟩ : ByteArray) t532 t533 t534 _ ?side1 A1.out).mono ?_); (case side1 => first | (with_reducible exact HL_LErr) | exact ⟨LErr.below HL_LErr.out (hbT HB.out)⟩); rintro e w43 ⟨v535, rfl, ho0, hb⟩; refine ⟨_, rfl, ?_⟩; have HO536 := Aside0.mk (Kd.R_lower ho0 (below_size (hbT HB.out))); replace HB := bsA HB hb; (try clear hb); (try clear hb2); (try clear hk); (try clear hi); (try clear ho0)) | ((with_reducible refine gate_dst (N := 15) rfl ?_); (try (refine gate_guard (by rfl) ?_; dsimp only)); refine Kd.R_lit k44 _ 44 ?hg (N := 15) ?hd (xs := ([(⟨4, (⟨#[45]⟩ : ByteArray), 0⟩ : S44), (⟨4, (⟨#[45]⟩ : ByteArray), 0⟩ : S44), (⟨2, (⟨#[53]⟩ : ByteArray), 0⟩ : S44)] : List (S44))) (inner := [.int .i64 4, .string (⟨#[45]⟩ : ByteArray), .int .i64 0, .int .i64 4, .string (⟨#[45]⟩ : ByteArray), .int .i64 0, .int .i64 2, .string (⟨#[53]⟩ : ByteArray), .int .i64 0]) (ok := fun _ => True) (okp := fun _ => True) ?hr ?hp (fun _ hk => hk) trivial (Below.refl _ _) (Nat.le_refl _) (by simp) ?_; (case hd => rfl); (case hg => rfl); (case hr => first | (go_simp; done) | (go_simp; rfl)); (case hp => exact (Reps.c3 (show Kd.M k44 _ _ _ (⟨4, (⟨#[45]⟩ : ByteArray), 0⟩ : S44) [.int .i64 4, .string (⟨#[45]⟩ : ByteArray), .int .i64 0] from (k44_mkM _ _ _ (⟨4, (⟨#[45]⟩ : ByteArray), 0⟩ : S44) )) (Reps.c3 (show Kd.M k44 _ _ _ (⟨4, (⟨#[45]⟩ : ByteArray), 0⟩ : S44) [.int .i64 4, .string (⟨#[45]⟩ : ByteArray), .int .i64 0] from (k44_mkM _ _ _ (⟨4, (⟨#[45]⟩ : ByteArray), 0⟩ : S44) )) (Reps.c3 (show Kd.M k44 _ _ _ (⟨2, (⟨#[53]⟩ : ByteArray), 0⟩ : S44) [.int .i64 2, .string (⟨#[53]⟩ : ByteArray), .int .i64 0] from (k44_mkM _ _ _ (⟨2, (⟨#[53]⟩ : ByteArray), 0⟩ : S44) )) (Reps.none _ _))))); intro v538 w44 ho45 hb hg_ hnew_; clear hg_ hnew_; (first | rw [← Ny537.out] at ho45 | (simp only [Int.reduceToNat] at ho45; rw [← Ny537.out] at ho45)); have HO539 := Aside0.mk (Kd.R_lower (Kd.R_new' ho45 (Kd.R_lt (by (with_reducible repeat (first | apply Kd.R_alloc | apply Kd.R_drewN | apply Kd.R_drew)); exact HO536.out))) (below_size (hbT HB.out))); replace HO536 := Aside0.mk (Kd.R_elder' (by (with_reducible repeat (first | apply Kd.R_alloc | apply Kd.R_drewN | apply Kd.R_drew)); exact HO536.out) (Kd.R_base ho45) hb); replace HB := bsA HB hb; clear hb ho45; obtain ⟨Ao46, co46, eo46⟩ := Kd.R_slice HO539.out; subst eo46) | ((with_reducible refine gate_callee (f := 23) rfl ?_); refine goesT (some 16) Tryd.func23 #[.slice Ao46 y537.length co46] ?_; (with_reducible refine (token_Spell.calls _ _ y537 t540 t541 _ ?side1 ?side2 ?side3 A2.out).mono ?_); (case side1 => repeat (first | exact (Kd.R_reads' HO539.out).2.2 | (with_reducible refine Kd.C_alloc ?_ _) | (with_reducible refine Kd.C_drewN ?_ _) | (with_reducible refine Kd.C_drew ?_))); (case side2 => exact (Kd.R_reads' HO539.out).2.1); (case side3 => first | (with_reducible exact HL_LErr) | exact ⟨LErr.below HL_LErr.out (hbT HB.out)⟩); rintro e w47 ⟨rfl, hb⟩; refine ⟨_, rfl, ?_⟩; replace HO536 := Aside0.mk (Kd.R_below (by (with_reducible repeat (first | apply Kd.R_alloc | apply Kd.R_drewN | apply Kd.R_drew)); exact HO536.out) hb); replace HO539 := Aside0.mk (Kd.R_below (by (with_reducible repeat (first | apply Kd.R_alloc | apply Kd.R_drewN | apply Kd.R_drew)); exact HO539.out) hb); replace HB := bsA HB hb; (try clear hb); (try clear hb2); (try clear hk); (try clear hi); obtain ⟨Ao48, co48, eo48⟩ := Kd.R_slice HO536.out; subst eo48))
        (try any_goals (exfalso; first | (have h_ := c7b5.out; contradiction)))
        go_ret
        exact ⟨by first | rfl | (simp [errW_none, errW_some] <;> rfl) | (simp [*, errW_none, errW_some] <;> rfl), hbT HB.out⟩
    · rw [if_neg c4] at H
      have c4b0 : (t533 == 0) = false := beq_eq_false_iff_ne.mpr c4
      have c4b1 : (t533 != 0) = true := bne_iff_ne.mpr c4
      obtain rfl := Option.some.inj H
      go_enter Tryd.func26, Tryd.ntmps26
      go_wp2_with (first | ((with_reducible refine gate_callee (f := 21) rfl ?_); refine goesT (some 7) Tryd.func21 #[.string (⟨#[97, 46, 98, 32, 62, 61, 32, 49, 50]⟩ : ByteArray)] ?_; (with_reducible refine (token_Scan.calls k (⟨#[97, 46, 98, 32, 62, 61, 32, 49, 50]⟩ : ByteArray) t532 t533 t534 _ ?side1 A1.out).mono ?_); (case side1 => first | (with_reducible exact HL_LErr) | exact ⟨LErr.below HL_LErr.out (hbT HB.out)⟩); rintro e w49 ⟨v535, rfl, ho0, hb⟩; refine ⟨_, rfl, ?_⟩; have HO536 := Aside0.mk (Kd.R_lower ho0 (below_size (hbT HB.out))); replace HB := bsA HB hb; (try clear hb); (try clear hb2); (try clear hk); (try clear hi); (try clear ho0)) | ((with_reducible refine gate_dst (N := 15) rfl ?_); (try (refine gate_guard (by rfl) ?_; dsimp only)); refine Kd.R_lit k44 _ 44 ?hg (N := 15) ?hd (xs := ([(⟨4, (⟨#[45]⟩ : ByteArray), 0⟩ : S44), (⟨4, (⟨#[45]⟩ : ByteArray), 0⟩ : S44), (⟨2, (⟨#[53]⟩ : ByteArray), 0⟩ : S44)] : List (S44))) (inner := [.int .i64 4, .string (⟨#[45]⟩ : ByteArray), .int .i64 0, .int .i64 4, .string (⟨#[45]⟩ : ByteArray), .int .i64 0, .int .i64 2, .string (⟨#[53]⟩ : ByteArray), .int .i64 0]) (ok := fun _ => True) (okp := fun _ => True) ?hr ?hp (fun _ hk => hk) trivial (Below.refl _ _) (Nat.le_refl _) (by simp) ?_; (case hd => rfl); (case hg => rfl); (case hr => first | (go_simp; done) | (go_simp; rfl)); (case hp => exact (Reps.c3 (show Kd.M k44 _ _ _ (⟨4, (⟨#[45]⟩ : ByteArray), 0⟩ : S44) [.int .i64 4, .string (⟨#[45]⟩ : ByteArray), .int .i64 0] from (k44_mkM _ _ _ (⟨4, (⟨#[45]⟩ : ByteArray), 0⟩ : S44) )) (Reps.c3 (show Kd.M k44 _ _ _ (⟨4, (⟨#[45]⟩ : ByteArray), 0⟩ : S44) [.int .i64 4, .string (⟨#[45]⟩ : ByteArray), .int .i64 0] from (k44_mkM _ _ _ (⟨4, (⟨#[45]⟩ : ByteArray), 0⟩ : S44) )) (Reps.c3 (show Kd.M k44 _ _ _ (⟨2, (⟨#[53]⟩ : ByteArray), 0⟩ : S44) [.int .i64 2, .string (⟨#[53]⟩ : ByteArray), .int .i64 0] from (k44_mkM _ _ _ (⟨2, (⟨#[53]⟩ : ByteArray), 0⟩ : S44) )) (Reps.none _ _))))); intro v538 w50 ho51 hb hg_ hnew_; clear hg_ hnew_; (first | rw [← Ny537.out] at ho51 | (simp only [Int.reduceToNat] at ho51; rw [← Ny537.out] at ho51)); have HO539 := Aside0.mk (Kd.R_lower (Kd.R_new' ho51 (Kd.R_lt (by (with_reducible repeat (first | apply Kd.R_alloc | apply Kd.R_drewN | apply Kd.R_drew)); exact HO536.out))) (below_size (hbT HB.out))); replace HO536 := Aside0.mk (Kd.R_elder' (by (with_reducible repeat (first | apply Kd.R_alloc | apply Kd.R_drewN | apply Kd.R_drew)); exact HO536.out) (Kd.R_base ho51) hb); replace HB := bsA HB hb; clear hb ho51; obtain ⟨Ao52, co52, eo52⟩ := Kd.R_slice HO539.out; subst eo52) | ((with_reducible refine gate_callee (f := 23) rfl ?_); refine goesT (some 16) Tryd.func23 #[.slice Ao52 y537.length co52] ?_; (with_reducible refine (token_Spell.calls _ _ y537 t540 t541 _ ?side1 ?side2 ?side3 A2.out).mono ?_); (case side1 => repeat (first | exact (Kd.R_reads' HO539.out).2.2 | (with_reducible refine Kd.C_alloc ?_ _) | (with_reducible refine Kd.C_drewN ?_ _) | (with_reducible refine Kd.C_drew ?_))); (case side2 => exact (Kd.R_reads' HO539.out).2.1); (case side3 => first | (with_reducible exact HL_LErr) | exact ⟨LErr.below HL_LErr.out (hbT HB.out)⟩); rintro e w53 ⟨rfl, hb⟩; refine ⟨_, rfl, ?_⟩; replace HO536 := Aside0.mk (Kd.R_below (by (with_reducible repeat (first | apply Kd.R_alloc | apply Kd.R_drewN | apply Kd.R_drew)); exact HO536.out) hb); replace HO539 := Aside0.mk (Kd.R_below (by (with_reducible repeat (first | apply Kd.R_alloc | apply Kd.R_drewN | apply Kd.R_drew)); exact HO539.out) hb); replace HB := bsA HB hb; (try clear hb); (try clear hb2); (try clear hk); (try clear hi)))
      (try any_goals (exfalso; first | (have h_ := c7b5.out; contradiction)))
      go_ret
      exact ⟨by first | rfl | (simp [errW_none, errW_some] <;> rfl) | (simp [*, errW_none, errW_some] <;> rfl), hbT HB.out⟩
  · rw [if_neg c3] at H
    have c3b0 : (t534 == 0) = false := beq_eq_false_iff_ne.mpr c3
    have c3b1 : (t534 != 0) = true := bne_iff_ne.mpr c3
    obtain rfl := Option.some.inj H
    go_enter Tryd.func26, Tryd.ntmps26
    go_wp2_with (first | ((with_reducible refine gate_callee (f := 21) rfl ?_); refine goesT (some 7) Tryd.func21 #[.string (⟨#[97, 46, 98, 32, 62, 61, 32, 49, 50]⟩ : ByteArray)] ?_; (with_reducible refine (token_Scan.calls k (⟨#[97, 46, 98, 32, 62, 61, 32, 49, 50]⟩ : ByteArray) t532 t533 t534 _ ?side1 A1.out).mono ?_); (case side1 => first | (with_reducible exact HL_LErr) | exact ⟨LErr.below HL_LErr.out (hbT HB.out)⟩); rintro e w54 ⟨v535, rfl, ho0, hb⟩; refine ⟨_, rfl, ?_⟩; have HO536 := Aside0.mk (Kd.R_lower ho0 (below_size (hbT HB.out))); replace HB := bsA HB hb; (try clear hb); (try clear hb2); (try clear hk); (try clear hi); (try clear ho0)) | ((with_reducible refine gate_dst (N := 15) rfl ?_); (try (refine gate_guard (by rfl) ?_; dsimp only)); refine Kd.R_lit k44 _ 44 ?hg (N := 15) ?hd (xs := ([(⟨4, (⟨#[45]⟩ : ByteArray), 0⟩ : S44), (⟨4, (⟨#[45]⟩ : ByteArray), 0⟩ : S44), (⟨2, (⟨#[53]⟩ : ByteArray), 0⟩ : S44)] : List (S44))) (inner := [.int .i64 4, .string (⟨#[45]⟩ : ByteArray), .int .i64 0, .int .i64 4, .string (⟨#[45]⟩ : ByteArray), .int .i64 0, .int .i64 2, .string (⟨#[53]⟩ : ByteArray), .int .i64 0]) (ok := fun _ => True) (okp := fun _ => True) ?hr ?hp (fun _ hk => hk) trivial (Below.refl _ _) (Nat.le_refl _) (by simp) ?_; (case hd => rfl); (case hg => rfl); (case hr => first | (go_simp; done) | (go_simp; rfl)); (case hp => exact (Reps.c3 (show Kd.M k44 _ _ _ (⟨4, (⟨#[45]⟩ : ByteArray), 0⟩ : S44) [.int .i64 4, .string (⟨#[45]⟩ : ByteArray), .int .i64 0] from (k44_mkM _ _ _ (⟨4, (⟨#[45]⟩ : ByteArray), 0⟩ : S44) )) (Reps.c3 (show Kd.M k44 _ _ _ (⟨4, (⟨#[45]⟩ : ByteArray), 0⟩ : S44) [.int .i64 4, .string (⟨#[45]⟩ : ByteArray), .int .i64 0] from (k44_mkM _ _ _ (⟨4, (⟨#[45]⟩ : ByteArray), 0⟩ : S44) )) (Reps.c3 (show Kd.M k44 _ _ _ (⟨2, (⟨#[53]⟩ : ByteArray), 0⟩ : S44) [.int .i64 2, .string (⟨#[53]⟩ : ByteArray), .int .i64 0] from (k44_mkM _ _ _ (⟨2, (⟨#[53]⟩ : ByteArray), 0⟩ : S44) )) (Reps.none _ _))))); intro v538 w55 ho56 hb hg_ hnew_; clear hg_ hnew_; (first | rw [← Ny537.out] at ho56 | (simp only [Int.reduceToNat] at ho56; rw [← Ny537.out] at ho56)); have HO539 := Aside0.mk (Kd.R_lower (Kd.R_new' ho56 (Kd.R_lt (by (with_reducible repeat (first | apply Kd.R_alloc | apply Kd.R_drewN | apply Kd.R_drew)); exact HO536.out))) (below_size (hbT HB.out))); replace HO536 := Aside0.mk (Kd.R_elder' (by (with_reducible repeat (first | apply Kd.R_alloc | apply Kd.R_drewN | apply Kd.R_drew)); exact HO536.out) (Kd.R_base ho56) hb); replace HB := bsA HB hb; clear hb ho56; obtain ⟨Ao57, co57, eo57⟩ := Kd.R_slice HO539.out; subst eo57) | ((with_reducible refine gate_callee (f := 23) rfl ?_); refine goesT (some 16) Tryd.func23 #[.slice Ao57 y537.length co57] ?_; (with_reducible refine (token_Spell.calls _ _ y537 t540 t541 _ ?side1 ?side2 ?side3 A2.out).mono ?_); (case side1 => repeat (first | exact (Kd.R_reads' HO539.out).2.2 | (with_reducible refine Kd.C_alloc ?_ _) | (with_reducible refine Kd.C_drewN ?_ _) | (with_reducible refine Kd.C_drew ?_))); (case side2 => exact (Kd.R_reads' HO539.out).2.1); (case side3 => first | (with_reducible exact HL_LErr) | exact ⟨LErr.below HL_LErr.out (hbT HB.out)⟩); rintro e w58 ⟨rfl, hb⟩; refine ⟨_, rfl, ?_⟩; replace HO536 := Aside0.mk (Kd.R_below (by (with_reducible repeat (first | apply Kd.R_alloc | apply Kd.R_drewN | apply Kd.R_drew)); exact HO536.out) hb); replace HO539 := Aside0.mk (Kd.R_below (by (with_reducible repeat (first | apply Kd.R_alloc | apply Kd.R_drewN | apply Kd.R_drew)); exact HO539.out) hb); replace HB := bsA HB hb; (try clear hb); (try clear hb2); (try clear hk); (try clear hi)))
    (try any_goals (exfalso; first | (have h_ := c7b5.out; contradiction)))
    go_ret
    exact ⟨by first | rfl | (simp [errW_none, errW_some] <;> rfl) | (simp [*, errW_none, errW_some] <;> rfl), hbT HB.out⟩

/-! ### refrainlaw5_eqToks: function 32 -/
def refrainlaw5_eqToks.l0 : Nat → List (S44) → List (S44) → Int → Option (Bool)
  | 0, _, _, _ => none
  | k + 1, x0, x1, x5 => if x5 < (x0.length : Int) then (if 0 ≤ x5 then (if x5 < (x1.length : Int) then (if (!(((rd_T44 x0 x5).f0) == ((rd_T44 x1 x5).f0)) || (!((((rd_T44 x0 x5).f1).toList) == (((rd_T44 x1 x5).f1).toList)) || (!(((rd_T44 x0 x5).f2) == ((rd_T44 x1 x5).f2))))) = true then (some false) else (refrainlaw5_eqToks.l0 k x0 x1 (wrap64 (x5 + 1)))) else (none)) else (none)) else (some true)
def refrainlaw5_eqToks.f (k : Nat) (l0 : List (S44)) (l1 : List (S44)) : Option (Bool) := if (l0.length : Int) = (l1.length : Int) then (refrainlaw5_eqToks.l0 k l0 l1 0) else (some false)
set_option maxRecDepth 100000 in
theorem refrainlaw5_eqToks.l0_zero : ∀ y0 y1 y2, refrainlaw5_eqToks.l0 0 y0 y1 y2 = none := fun _ _ _ => rfl
set_option maxRecDepth 100000 in
theorem refrainlaw5_eqToks.mono_l : ∀ k, (∀ y0 y1 y2, LeO (refrainlaw5_eqToks.l0 k y0 y1 y2) (refrainlaw5_eqToks.l0 (k + 1) y0 y1 y2))
  | 0 => fun _ _ _ r h => by (unfold refrainlaw5_eqToks.l0 at h; cases h)
  | k + 1 => by
    have ih0 := refrainlaw5_eqToks.mono_l k
    · intro y0 y1 y2
      unfold refrainlaw5_eqToks.l0
      repeat' first
      | (with_reducible exact ih0 _ _ _)
      | (with_reducible exact LeO.refl _)
      | (with_reducible exact LeO.none _)
      | (with_reducible refine LeO.ite ?_ ?_)
      | (with_reducible refine LeO.bind ?_ (fun _ => ?_))
      | exact ih0 _ _ _
      | exact LeO.none _
      | refine LeO.ite ?_ ?_
      | refine LeO.bind ?_ (fun _ => ?_)
set_option maxRecDepth 100000 in
theorem refrainlaw5_eqToks.mono : ∀ a0 a1 k, LeO (refrainlaw5_eqToks.f k a0 a1) (refrainlaw5_eqToks.f (k + 1) a0 a1) := by
  intro a0 a1 k
  have ih0 := refrainlaw5_eqToks.mono_l k
  unfold refrainlaw5_eqToks.f
  repeat' first
      | (with_reducible exact ih0 _ _ _)
      | (with_reducible exact LeO.refl _)
      | (with_reducible exact LeO.none _)
      | (with_reducible refine LeO.ite ?_ ?_)
      | (with_reducible refine LeO.bind ?_ (fun _ => ?_))
      | exact ih0 _ _ _
      | exact LeO.none _
      | refine LeO.ite ?_ ?_
      | refine LeO.bind ?_ (fun _ => ?_)
set_option maxHeartbeats 8000000 in
set_option maxRecDepth 100000 in
theorem refrainlaw5_eqToks.calls (k : Nat) (A0 : Option Addr) (c0 : Nat) (l0 : List (S44)) (A1 : Option Addr) (c1 : Nat) (l1 : List (S44)) (r : Bool) (w : World) (hr0 : Kd.C k44 w A0 l0.length l0) (hc0 : l0.length ≤ c0) (hr1 : Kd.C k44 w A1 l1.length l1) (hc1 : l1.length ≤ c1) (h : refrainlaw5_eqToks.f k l0 l1 = some r) :
    Calls Tryd.prog 32 #[.slice A0 l0.length c0, .slice A1 l1.length c1] w fun e w' => e = .returned (.bool r) ∧ Drawn0 w w' := by
  have hu44 := Tryd.underlying44
  have HR0 := Aside0.mk hr0
  have HC0 := Aside0.mk hc0
  clear hr0 hc0
  have HR1 := Aside0.mk hr1
  have HC1 := Aside0.mk hc1
  clear hr1 hc1
  have H : (if (l0.length : Int) = (l1.length : Int) then (refrainlaw5_eqToks.l0 k l0 l1 0) else (some false)) = some r := h
  clear h
  by_cases c3 : (l0.length : Int) = (l1.length : Int)
  · rw [if_pos c3] at H
    have c3b0 : ((l0.length : Int) == (l1.length : Int)) = true := beq_iff_eq.mpr c3
    have c3b1 : ((l0.length : Int) != (l1.length : Int)) = false := bne_eq_false_iff_eq.mpr c3
    have c3b2 : (l0.length == l1.length) = true := by first | simpa using c3 | (simp at c3 ⊢; omega)
    clear c3
    have H' := Aside0.mk H
    clear H
    go_enter Tryd.func32, Tryd.ntmps32
    go_wp2
    repeat (go_quiet (fail); try go_wp2)
    go_loopg [5] k (fun kq v5 w' => ∃ (x5_1 : Int), v5 = .int .i64 x5_1 ∧ Aside0 (refrainlaw5_eqToks.l0 kq l0 l1 x5_1 = some r) ∧ Aside0 (kq ≤ k) ∧ Drawn0 w w')
    case atStart => exact ⟨(0), (by first | rfl | (simp; done) | (simp [*]; done) | (simp; unfold wrap64; omega) | (congr 1; (try rw [Bool.eq_iff_iff]); simp [List.isEmpty_iff]; done)), H', ⟨Nat.le_refl _⟩, by repeat (first | exact Drawn0.refl _ | apply Drawn0.step)⟩
    case round =>
      clear H'
      try clear c1
      try clear p2
      try clear c3
      try clear c3b0
      try clear c3b1
      try clear c3b2
      obtain ⟨x5_1, rfl, HA, HK1, ⟨m1, rfl⟩⟩ := hrel
      cases gk with
      | zero => (have HA2 := HA.out; clear HA; revert HA2; rw [refrainlaw5_eqToks.l0_zero]; intro h_; cases h_)
      | succ k1 =>
        have H := HA.out
        clear HA
        simp only [refrainlaw5_eqToks.l0] at H
        by_cases c4 : x5_1 < (l0.length : Int)
        · rw [if_pos c4] at H
          have c4b0 : decide (x5_1 < (l0.length : Int)) = true := decide_eq_true c4
          clear c4
          by_cases c5 : 0 ≤ x5_1
          · rw [if_pos c5] at H
            have c5b0 : decide (0 ≤ x5_1) = true := decide_eq_true c5
            clear c5
            by_cases c6 : x5_1 < (l1.length : Int)
            · rw [if_pos c6] at H
              have c6b0 : decide (x5_1 < (l1.length : Int)) = true := decide_eq_true c6
              clear c6
              by_cases c7 : (!(((rd_T44 l0 x5_1).f0) == ((rd_T44 l1 x5_1).f0)) || (!((((rd_T44 l0 x5_1).f1).toList) == (((rd_T44 l1 x5_1).f1).toList)) || (!(((rd_T44 l0 x5_1).f2) == ((rd_T44 l1 x5_1).f2))))) = true
              · rw [if_pos c7] at H
                have c7b0 : (!(((rd_T44 l0 x5_1).f0) == ((rd_T44 l1 x5_1).f0)) || (!((((rd_T44 l0 x5_1).f1).toList) == (((rd_T44 l1 x5_1).f1).toList)) || (!(((rd_T44 l0 x5_1).f2) == ((rd_T44 l1 x5_1).f2))))) = true := c7
                clear c7
                obtain rfl := Option.some.inj H
                have p545 : 0 ≤ (x5_1 : Int) := of_decide_eq_true (by first | (with_reducible assumption) | assumption)
                have q545 : x5_1 < (l0.length : Int) := of_decide_eq_true (by first | (with_reducible assumption) | assumption)
                obtain ⟨ad545, e545, hx545_0, hx545_1, hx545_2⟩ := at_T44 HR0.out x5_1 p545 q545
                cases e545
                replace p545 := eq_true p545
                replace q545 := eq_true q545
                have p546 : 0 ≤ (x5_1 : Int) := of_decide_eq_true (by first | (with_reducible assumption) | assumption)
                have q546 : x5_1 < (l1.length : Int) := of_decide_eq_true (by first | (with_reducible assumption) | assumption)
                obtain ⟨ad546, e546, hx546_0, hx546_1, hx546_2⟩ := at_T44 HR1.out x5_1 p546 q546
                cases e546
                replace p546 := eq_true p546
                replace q546 := eq_true q546
                go_wp2
                repeat (go_quiet (fail); try go_wp2)
                go_ret
                exact ⟨by first | rfl | (simp; done) | (simp [*]; done) | (simp; unfold wrap64; omega) | (congr 1; (try rw [Bool.eq_iff_iff]); simp [List.isEmpty_iff]; done), by repeat (first | exact Drawn0.refl _ | apply Drawn0.step)⟩
              · rw [if_neg c7] at H
                have c7b0 : (!(((rd_T44 l0 x5_1).f0) == ((rd_T44 l1 x5_1).f0)) || (!((((rd_T44 l0 x5_1).f1).toList) == (((rd_T44 l1 x5_1).f1).toList)) || (!(((rd_T44 l0 x5_1).f2) == ((rd_T44 l1 x5_1).f2))))) = false := by simpa using c7
                clear c7
                have H' := Aside0.mk H
                clear H
                have p545 : 0 ≤ (x5_1 : Int) := of_decide_eq_true (by first | (with_reducible assumption) | assumption)
                have q545 : x5_1 < (l0.length : Int) := of_decide_eq_true (by first | (with_reducible assumption) | assumption)
                obtain ⟨ad545, e545, hx545_0, hx545_1, hx545_2⟩ := at_T44 HR0.out x5_1 p545 q545
                cases e545
                replace p545 := eq_true p545
                replace q545 := eq_true q545
                have p546 : 0 ≤ (x5_1 : Int) := of_decide_eq_true (by first | (with_reducible assumption) | assumption)
                have q546 : x5_1 < (l1.length : Int) := of_decide_eq_true (by first | (with_reducible assumption) | assumption)
                obtain ⟨ad546, e546, hx546_0, hx546_1, hx546_2⟩ := at_T44 HR1.out x5_1 p546 q546
                cases e546
                replace p546 := eq_true p546
                replace q546 := eq_true q546
                go_wp2
                repeat (go_quiet (fail); try go_wp2)
                go_roundg k1
                case measure => have := HK1.out; omega
                case rel => exact ⟨(wrap64 (x5_1 + 1)), (by first | rfl | (simp; done) | (simp [*]; done) | (simp; unfold wrap64; omega) | (congr 1; (try rw [Bool.eq_iff_iff]); simp [List.isEmpty_iff]; done)), H', ⟨by have := HK1.out; omega⟩, by repeat (first | exact Drawn0.refl _ | apply Drawn0.step)⟩
            · rw [if_neg c6] at H
              exact absurd H (by simp)
          · rw [if_neg c5] at H
            exact absurd H (by simp)
        · rw [if_neg c4] at H
          have c4b0 : decide (x5_1 < (l0.length : Int)) = false := decide_eq_false c4
          clear c4
          obtain rfl := Option.some.inj H
          go_wp2
          repeat (go_quiet (fail); try go_wp2)
          go_ret
          exact ⟨by first | rfl | (simp; done) | (simp [*]; done) | (simp; unfold wrap64; omega) | (congr 1; (try rw [Bool.eq_iff_iff]); simp [List.isEmpty_iff]; done), by repeat (first | exact Drawn0.refl _ | apply Drawn0.step)⟩
  · rw [if_neg c3] at H
    have c3b0 : ((l0.length : Int) == (l1.length : Int)) = false := beq_eq_false_iff_ne.mpr c3
    have c3b1 : ((l0.length : Int) != (l1.length : Int)) = true := bne_iff_ne.mpr c3
    have c3b2 : (l0.length == l1.length) = false := by first | simpa using c3 | (simp at c3 ⊢; omega)
    obtain rfl := Option.some.inj H
    go_enter Tryd.func32, Tryd.ntmps32
    go_wp2
    repeat (go_quiet (fail); try go_wp2)
    go_ret
    exact ⟨by first | rfl | (simp; done) | (simp [*]; done) | (simp; unfold wrap64; omega) | (congr 1; (try rw [Bool.eq_iff_iff]); simp [List.isEmpty_iff]; done), by repeat (first | exact Drawn0.refl _ | apply Drawn0.step)⟩

/-! ### refrainref5_blank: function 81 -/
def refrainref5_blank.f (a0 : Int) : Option (Bool) := if a0 = 32 then (some true) else (if a0 = 9 then (some true) else (if a0 = 10 then (some true) else (some (a0 == 13))))
set_option maxHeartbeats 8000000 in
set_option maxRecDepth 100000 in
theorem refrainref5_blank.calls (a0 : Int) (r : Bool) (w : World) (h : refrainref5_blank.f a0 = some r) :
    Calls Tryd.prog 81 #[.int .u8 a0] w fun e w' => e = .returned (.bool r) ∧ Drawn0 w w' := by
  have H : (if a0 = 32 then (some true) else (if a0 = 9 then (some true) else (if a0 = 10 then (some true) else (some (a0 == 13))))) = some r := h
  clear h
  by_cases c2 : a0 = 32
  · rw [if_pos c2] at H
    have c2b0 : (a0 == 32) = true := beq_iff_eq.mpr c2
    have c2b1 : (a0 != 32) = false := bne_eq_false_iff_eq.mpr c2
    clear c2
    obtain rfl := Option.some.inj H
    go_enter Tryd.func81, Tryd.ntmps81
    go_wp2
    go_ret
    exact ⟨by first | rfl | (simp; done) | (simp [*]; done) | (simp; unfold wrap64; omega) | (congr 1; (try rw [Bool.eq_iff_iff]); simp [List.isEmpty_iff]; done), by repeat (first | exact Drawn0.refl _ | apply Drawn0.step)⟩
  · rw [if_neg c2] at H
    have c2b0 : (a0 == 32) = false := beq_eq_false_iff_ne.mpr c2
    have c2b1 : (a0 != 32) = true := bne_iff_ne.mpr c2
    by_cases c3 : a0 = 9
    · rw [if_pos c3] at H
      have c3b0 : (a0 == 9) = true := beq_iff_eq.mpr c3
      have c3b1 : (a0 != 9) = false := bne_eq_false_iff_eq.mpr c3
      clear c3
      obtain rfl := Option.some.inj H
      go_enter Tryd.func81, Tryd.ntmps81
      go_wp2
      go_ret
      exact ⟨by first | rfl | (simp; done) | (simp [*]; done) | (simp; unfold wrap64; omega) | (congr 1; (try rw [Bool.eq_iff_iff]); simp [List.isEmpty_iff]; done), by repeat (first | exact Drawn0.refl _ | apply Drawn0.step)⟩
    · rw [if_neg c3] at H
      have c3b0 : (a0 == 9) = false := beq_eq_false_iff_ne.mpr c3
      have c3b1 : (a0 != 9) = true := bne_iff_ne.mpr c3
      by_cases c4 : a0 = 10
      · rw [if_pos c4] at H
        have c4b0 : (a0 == 10) = true := beq_iff_eq.mpr c4
        have c4b1 : (a0 != 10) = false := bne_eq_false_iff_eq.mpr c4
        clear c4
        obtain rfl := Option.some.inj H
        go_enter Tryd.func81, Tryd.ntmps81
        go_wp2
        go_ret
        exact ⟨by first | rfl | (simp; done) | (simp [*]; done) | (simp; unfold wrap64; omega) | (congr 1; (try rw [Bool.eq_iff_iff]); simp [List.isEmpty_iff]; done), by repeat (first | exact Drawn0.refl _ | apply Drawn0.step)⟩
      · rw [if_neg c4] at H
        have c4b0 : (a0 == 10) = false := beq_eq_false_iff_ne.mpr c4
        have c4b1 : (a0 != 10) = true := bne_iff_ne.mpr c4
        obtain rfl := Option.some.inj H
        go_enter Tryd.func81, Tryd.ntmps81
        go_wp2
        go_ret
        exact ⟨by first | rfl | (simp; done) | (simp [*]; done) | (simp; unfold wrap64; omega) | (congr 1; (try rw [Bool.eq_iff_iff]); simp [List.isEmpty_iff]; done), by repeat (first | exact Drawn0.refl _ | apply Drawn0.step)⟩

end Go.Proofs.YthmcapdakplhdaaDoor.Pr
end

/-! ## text Prx24 -/
section
namespace Go.Proofs.YthmcapdakplhdaaDoor.Pr
open Go.RowKit Go.Proofs.YthmcapdakplhdaaDoorW.PrintWords Go.Proofs.YthmcapdakplhdaaDoorW.PrintLast Go.Proofs.YthmcapdakplhdaaDoorW.PrintMore
attribute [local go_sem] max2_int min2_int max_two min_two max_three min_three max_four min_four   -- for this text's walks alone
attribute [local go_sem high] Go.Proofs.YthmcapdakplhdaaDoor.isSome_setCell
set_option maxRecDepth 100000
set_option linter.unusedVariables false
set_option linter.unusedSimpArgs false

/-! ### refrainref5_skip: function 67 -/
mutual
def refrainref5_skip.l0 : Nat → ByteArray → Int → Option (Int)
  | 0, _, _ => none
  | k + 1, x0, x1 => if x1 < (x0.size : Int) then (if 0 ≤ x1 then ((refrainref5_blank.f (bt x0 x1)).bind fun t547 => (if t547 = true then (refrainref5_skip.l0 k x0 (wrap64 (x1 + 1))) else (if (bt x0 x1) = 45 then (if (wrap64 (x1 + 1)) ≥ (x0.size : Int) then (refrainref5_skip.j1 k x0 x1 true) else (if 0 ≤ (wrap64 (x1 + 1)) then (if (wrap64 (x1 + 1)) < (x0.size : Int) then (refrainref5_skip.j1 k x0 x1 ((bt x0 (wrap64 (x1 + 1))) != 45)) else (none)) else (none))) else (refrainref5_skip.j1 k x0 x1 true)))) else (none)) else (some x1)
def refrainref5_skip.j1 : Nat → ByteArray → Int → Bool → Option (Int)
  | 0, _, _, _ => none
  | k + 1, x0, x1, x32 => if x32 = true then (some x1) else (refrainref5_skip.l1 k x0 x1)
def refrainref5_skip.l1 : Nat → ByteArray → Int → Option (Int)
  | 0, _, _ => none
  | k + 1, x0, x1 => if x1 < (x0.size : Int) then (if 0 ≤ x1 then (if (bt x0 x1) = 10 then (refrainref5_skip.l0 k x0 x1) else (refrainref5_skip.l1 k x0 (wrap64 (x1 + 1)))) else (none)) else (refrainref5_skip.l0 k x0 x1)
end
def refrainref5_skip.f (k : Nat) (a0 : ByteArray) (a1 : Int) : Option (Int) := refrainref5_skip.l0 k a0 a1
set_option maxRecDepth 100000 in
theorem refrainref5_skip.l0_zero : ∀ y0 y1, refrainref5_skip.l0 0 y0 y1 = none := fun _ _ => rfl
set_option maxRecDepth 100000 in
theorem refrainref5_skip.j1_zero : ∀ y0 y1 y2, refrainref5_skip.j1 0 y0 y1 y2 = none := fun _ _ _ => rfl
set_option maxRecDepth 100000 in
theorem refrainref5_skip.l1_zero : ∀ y0 y1, refrainref5_skip.l1 0 y0 y1 = none := fun _ _ => rfl
set_option maxRecDepth 100000 in
theorem refrainref5_skip.mono_l : ∀ k, (∀ y0 y1, LeO (refrainref5_skip.l0 k y0 y1) (refrainref5_skip.l0 (k + 1) y0 y1)) ∧ (∀ y0 y1 y2, LeO (refrainref5_skip.j1 k y0 y1 y2) (refrainref5_skip.j1 (k + 1) y0 y1 y2)) ∧ (∀ y0 y1, LeO (refrainref5_skip.l1 k y0 y1) (refrainref5_skip.l1 (k + 1) y0 y1))
  | 0 => ⟨fun _ _ r h => by (unfold refrainref5_skip.l0 at h; cases h), fun _ _ _ r h => by (unfold refrainref5_skip.j1 at h; cases h), fun _ _ r h => by (unfold refrainref5_skip.l1 at h; cases h)⟩
  | k + 1 => by
    obtain ⟨ih0, ih1, ih2⟩ := refrainref5_skip.mono_l k
    refine ⟨?_, ?_, ?_⟩
    · intro y0 y1
      unfold refrainref5_skip.l0
      repeat' first
      | (with_reducible exact ih0 _ _)
      | (with_reducible exact ih1 _ _ _)
      | (with_reducible exact ih2 _ _)
      | (with_reducible exact LeO.refl _)
      | (with_reducible exact LeO.none _)
      | (with_reducible refine LeO.ite ?_ ?_)
      | (with_reducible refine LeO.bind ?_ (fun _ => ?_))
      | exact ih0 _ _
      | exact ih1 _ _ _
      | exact ih2 _ _
      | exact LeO.none _
      | refine LeO.ite ?_ ?_
      | refine LeO.bind ?_ (fun _ => ?_)
    · intro y0 y1 y2
      unfold refrainref5_skip.j1
      repeat' first
      | (with_reducible exact ih0 _ _)
      | (with_reducible exact ih1 _ _ _)
      | (with_reducible exact ih2 _ _)
      | (with_reducible exact LeO.refl _)
      | (with_reducible exact LeO.none _)
      | (with_reducible refine LeO.ite ?_ ?_)
      | (with_reducible refine LeO.bind ?_ (fun _ => ?_))
      | exact ih0 _ _
      | exact ih1 _ _ _
      | exact ih2 _ _
      | exact LeO.none _
      | refine LeO.ite ?_ ?_
      | refine LeO.bind ?_ (fun _ => ?_)
    · intro y0 y1
      unfold refrainref5_skip.l1
      repeat' first
      | (with_reducible exact ih0 _ _)
      | (with_reducible exact ih1 _ _ _)
      | (with_reducible exact ih2 _ _)
      | (with_reducible exact LeO.refl _)
      | (with_reducible exact LeO.none _)
      | (with_reducible refine LeO.ite ?_ ?_)
      | (with_reducible refine LeO.bind ?_ (fun _ => ?_))
      | exact ih0 _ _
      | exact ih1 _ _ _
      | exact ih2 _ _
      | exact LeO.none _
      | refine LeO.ite ?_ ?_
      | refine LeO.bind ?_ (fun _ => ?_)
set_option maxRecDepth 100000 in
theorem refrainref5_skip.mono : ∀ a0 a1 k, LeO (refrainref5_skip.f k a0 a1) (refrainref5_skip.f (k + 1) a0 a1) := by
  intro a0 a1 k
  obtain ⟨ih0, ih1, ih2⟩ := refrainref5_skip.mono_l k
  unfold refrainref5_skip.f
  repeat' first
      | (with_reducible exact ih0 _ _)
      | (with_reducible exact ih1 _ _ _)
      | (with_reducible exact ih2 _ _)
      | (with_reducible exact LeO.refl _)
      | (with_reducible exact LeO.none _)
      | (with_reducible refine LeO.ite ?_ ?_)
      | (with_reducible refine LeO.bind ?_ (fun _ => ?_))
      | exact ih0 _ _
      | exact ih1 _ _ _
      | exact ih2 _ _
      | exact LeO.none _
      | refine LeO.ite ?_ ?_
      | refine LeO.bind ?_ (fun _ => ?_)
set_option maxHeartbeats 8000000 in
set_option maxRecDepth 100000 in
theorem refrainref5_skip.calls (k : Nat) (a0 : ByteArray) (a1 : Int) (r : Int) (w : World) (h : refrainref5_skip.f k a0 a1 = some r) :
    Calls Tryd.prog 67 #[.string a0, .int .i64 a1] w fun e w' => e = .returned (.int .i64 r) ∧ Drawn0 w w' := by
  have H : (refrainref5_skip.l0 k a0 a1) = some r := h
  clear h
  have H' := Aside0.mk H
  clear H
  go_enter Tryd.func67, Tryd.ntmps67
  go_wp2
  go_loopg [1] k (fun kq v1 w' => ∃ (x1_1 : Int), v1 = .int .i64 x1_1 ∧ Aside0 (refrainref5_skip.l0 kq a0 x1_1 = some r) ∧ Aside0 (kq ≤ k) ∧ Drawn0 w w')
  case atStart => exact ⟨(a1), (by first | rfl | (simp; done) | (simp [*]; done) | (simp; unfold wrap64; omega) | (congr 1; (try rw [Bool.eq_iff_iff]); simp [List.isEmpty_iff]; done)), H', ⟨Nat.le_refl _⟩, by repeat (first | exact Drawn0.refl _ | apply Drawn0.step)⟩
  case round =>
    clear H'
    try clear p2
    obtain ⟨x1_1, rfl, HA, HK1, ⟨m1, rfl⟩⟩ := hrel
    cases gk with
    | zero => (have HA2 := HA.out; clear HA; revert HA2; rw [refrainref5_skip.l0_zero]; intro h_; cases h_)
    | succ k1 =>
      have H := HA.out
      clear HA
      simp only [refrainref5_skip.l0] at H
      by_cases c3 : x1_1 < (a0.size : Int)
      · rw [if_pos c3] at H
        have c3b0 : decide (x1_1 < (a0.size : Int)) = true := decide_eq_true c3
        clear c3
        by_cases c4 : 0 ≤ x1_1
        · rw [if_pos c4] at H
          have c4b0 : decide (0 ≤ x1_1) = true := decide_eq_true c4
          clear c4
          replace H := Option.bind_eq_some_iff.mp H
          obtain ⟨t547, A60, H⟩ := H
          replace H : (if t547 = true then (refrainref5_skip.l0 k1 a0 (wrap64 (x1_1 + 1))) else (if (bt a0 x1_1) = 45 then (if (wrap64 (x1_1 + 1)) ≥ (a0.size : Int) then (refrainref5_skip.j1 k1 a0 x1_1 true) else (if 0 ≤ (wrap64 (x1_1 + 1)) then (if (wrap64 (x1_1 + 1)) < (a0.size : Int) then (refrainref5_skip.j1 k1 a0 x1_1 ((bt a0 (wrap64 (x1_1 + 1))) != 45)) else (none)) else (none))) else (refrainref5_skip.j1 k1 a0 x1_1 true))) = some r := H
          have A6 := Aside0.mk A60
          clear A60
          by_cases c7 : t547 = true
          · subst c7
            have H1 : (refrainref5_skip.l0 k1 a0 (wrap64 (x1_1 + 1))) = some r := by rw [if_pos rfl] at H; exact H
            clear H
            have H := H1
            clear H1
            have H' := Aside0.mk H
            clear H
            have p5 : 0 ≤ (x1_1 : Int) := of_decide_eq_true (by first | (with_reducible assumption) | assumption)
            have q5 : x1_1 < (a0.size : Int) := of_decide_eq_true (by first | (with_reducible assumption) | assumption)
            have hx5 := bt_at a0 x1_1
            replace p5 := eq_true p5
            replace q5 := eq_true q5
            go_wp2_with (first | ((with_reducible refine gate_callee (f := 81) rfl ?_); refine goesT (some 12) Tryd.func81 #[.int .u8 (bt a0 x1_1)] ?_; (with_reducible refine (refrainref5_blank.calls (bt a0 x1_1) true _ A6.out).mono ?_); rintro e w' ⟨rfl, ⟨nd, rfl⟩⟩; refine ⟨_, rfl, ?_⟩))
            go_roundg k1
            case measure => have := HK1.out; omega
            case rel => exact ⟨(wrap64 (x1_1 + 1)), (by first | rfl | (simp; done) | (simp [*]; done) | (simp; unfold wrap64; omega) | (congr 1; (try rw [Bool.eq_iff_iff]); simp [List.isEmpty_iff]; done)), H', ⟨by have := HK1.out; omega⟩, by repeat (first | exact Drawn0.refl _ | apply Drawn0.step)⟩
          · replace c7 := Bool.eq_false_iff.mpr c7
            subst c7
            have H1 : (if (bt a0 x1_1) = 45 then (if (wrap64 (x1_1 + 1)) ≥ (a0.size : Int) then (refrainref5_skip.j1 k1 a0 x1_1 true) else (if 0 ≤ (wrap64 (x1_1 + 1)) then (if (wrap64 (x1_1 + 1)) < (a0.size : Int) then (refrainref5_skip.j1 k1 a0 x1_1 ((bt a0 (wrap64 (x1_1 + 1))) != 45)) else (none)) else (none))) else (refrainref5_skip.j1 k1 a0 x1_1 true)) = some r := by rw [if_neg (show ¬ (false = true) by decide)] at H; exact H
            clear H
            have H := H1
            clear H1
            have HC8 := Aside0.mk H
            clear H
            have p5 : 0 ≤ (x1_1 : Int) := of_decide_eq_true (by first | (with_reducible assumption) | assumption)
            have q5 : x1_1 < (a0.size : Int) := of_decide_eq_true (by first | (with_reducible assumption) | assumption)
            have hx5 := bt_at a0 x1_1
            replace p5 := eq_true p5
            replace q5 := eq_true q5
            go_upto_region 4 with (first | ((with_reducible refine gate_callee (f := 81) rfl ?_); refine goesT (some 12) Tryd.func81 #[.int .u8 (bt a0 x1_1)] ?_; (with_reducible refine (refrainref5_blank.calls (bt a0 x1_1) false _ A6.out).mono ?_); rintro e w' ⟨rfl, ⟨nd, rfl⟩⟩; refine ⟨_, rfl, ?_⟩))
            (try simp only [Act.put, List.setIfInBounds_toArray, List.set_cons_zero, List.set_cons_succ])
            go_cut [32] (fun v32 wc => ∃ (kq : Nat) (x32_7 : Bool), v32 = .bool x32_7 ∧ Aside0 (refrainref5_skip.j1 kq a0 x1_1 x32_7 = some r) ∧ Aside0 (kq ≤ k1) ∧ Drawn0 w wc)
            case first =>
              have H := HC8.out
              clear HC8
              by_cases c10 : (bt a0 x1_1) = 45
              · rw [if_pos c10] at H
                have c10b0 : ((bt a0 x1_1) == 45) = true := beq_iff_eq.mpr c10
                have c10b1 : ((bt a0 x1_1) != 45) = false := bne_eq_false_iff_eq.mpr c10
                clear c10
                (first | rw [c10b0] | (simp only [i64_w, i32_w, IntKind.wrap_u8, IntKind.wrap_u16, IntKind.wrap_u32]; rw [c10b0]) | skip)
                by_cases c11 : (wrap64 (x1_1 + 1)) ≥ (a0.size : Int)
                · rw [if_pos c11] at H
                  have c11b0 : decide ((a0.size : Int) ≤ (wrap64 (x1_1 + 1))) = true := decide_eq_true c11
                  clear c11
                  have H' := Aside0.mk H
                  clear H
                  have p9 : 0 ≤ (x1_1 : Int) := of_decide_eq_true (by first | (with_reducible assumption) | assumption)
                  have q9 : x1_1 < (a0.size : Int) := of_decide_eq_true (by first | (with_reducible assumption) | assumption)
                  have hx9 := bt_at a0 x1_1
                  replace p9 := eq_true p9
                  replace q9 := eq_true q9
                  go_wp2
                  go_meet
                  case rel => exact ⟨_, (true), (by first | rfl | (simp; done) | (simp [*]; done) | (simp; unfold wrap64; omega) | (congr 1; (try rw [Bool.eq_iff_iff]); simp [List.isEmpty_iff]; done)), H', ⟨by have := HK1.out; first | omega | exact Nat.le_refl _⟩, by repeat (first | exact Drawn0.refl _ | apply Drawn0.step)⟩
                · rw [if_neg c11] at H
                  have c11b0 : decide ((a0.size : Int) ≤ (wrap64 (x1_1 + 1))) = false := decide_eq_false c11
                  clear c11
                  obtain ⟨ji12, hji12⟩ : ∃ j_ : Int, (wrap64 (x1_1 + 1)) = j_ := ⟨_, rfl⟩
                  replace H : (if 0 ≤ (ji12) then (if (ji12) < (a0.size : Int) then (refrainref5_skip.j1 k1 a0 x1_1 ((bt a0 (ji12)) != 45)) else (none)) else (none)) = some r := by first | (rw [hji12] at H; exact H) | (simp only [hji12] at H ⊢; exact H)
                  (try rw [hji12] at c11b0)
                  have hji12w : (IntKind.i64.wrap (x1_1 + 1)) = ji12 := (i64_w _).trans hji12
                  by_cases c13 : 0 ≤ (ji12)
                  · rw [if_pos c13] at H
                    have c13b0 : decide (0 ≤ (ji12)) = true := decide_eq_true c13
                    clear c13
                    by_cases c14 : (ji12) < (a0.size : Int)
                    · rw [if_pos c14] at H
                      have c14b0 : decide ((ji12) < (a0.size : Int)) = true := decide_eq_true c14
                      clear c14
                      have H' := Aside0.mk H
                      clear H
                      have p9 : 0 ≤ (x1_1 : Int) := of_decide_eq_true (by first | (with_reducible assumption) | assumption)
                      have q9 : x1_1 < (a0.size : Int) := of_decide_eq_true (by first | (with_reducible assumption) | assumption)
                      have hx9 := bt_at a0 x1_1
                      replace p9 := eq_true p9
                      replace q9 := eq_true q9
                      have p15 : 0 ≤ ((ji12) : Int) := of_decide_eq_true (by first | (with_reducible assumption) | assumption)
                      have q15 : (ji12) < (a0.size : Int) := of_decide_eq_true (by first | (with_reducible assumption) | assumption)
                      have hx15 := bt_at a0 (ji12)
                      replace p15 := eq_true p15
                      replace q15 := eq_true q15
                      go_wp2
                      go_meet
                      case rel => exact ⟨_, (((bt a0 (ji12)) != 45)), (by first | rfl | (simp; done) | (simp only [← hji12] <;> (first | rfl | (simp; done))) | (simp [*]; done)), H', ⟨by have := HK1.out; first | omega | exact Nat.le_refl _⟩, by repeat (first | exact Drawn0.refl _ | apply Drawn0.step)⟩
                    · rw [if_neg c14] at H
                      exact absurd H (by simp)
                  · rw [if_neg c13] at H
                    exact absurd H (by simp)
              · rw [if_neg c10] at H
                have c10b0 : ((bt a0 x1_1) == 45) = false := beq_eq_false_iff_ne.mpr c10
                have c10b1 : ((bt a0 x1_1) != 45) = true := bne_iff_ne.mpr c10
                (first | rw [c10b0] | (simp only [i64_w, i32_w, IntKind.wrap_u8, IntKind.wrap_u16, IntKind.wrap_u32]; rw [c10b0]) | skip)
                have H' := Aside0.mk H
                clear H
                have p9 : 0 ≤ (x1_1 : Int) := of_decide_eq_true (by first | (with_reducible assumption) | assumption)
                have q9 : x1_1 < (a0.size : Int) := of_decide_eq_true (by first | (with_reducible assumption) | assumption)
                have hx9 := bt_at a0 x1_1
                replace p9 := eq_true p9
                replace q9 := eq_true q9
                go_wp2
                go_meet
                case rel => exact ⟨_, (true), (by first | rfl | (simp; done) | (simp [*]; done) | (simp; unfold wrap64; omega) | (congr 1; (try rw [Bool.eq_iff_iff]); simp [List.isEmpty_iff]; done)), H', ⟨by have := HK1.out; first | omega | exact Nat.le_refl _⟩, by repeat (first | exact Drawn0.refl _ | apply Drawn0.step)⟩
            case rest =>
              clear HC8
              try clear c1
              try clear p1
              try clear q1
              try clear hx1
              try clear p2
              try clear c3
              try clear c3b0
              try clear c4
              try clear c4b0
              try clear p5
              try clear q5
              try clear hx5
              try clear c6
              try clear p6
              try clear c7
              try clear c8
              try clear p9
              try clear q9
              try clear hx9
              try clear c10
              try clear c10b0
              try clear c10b1
              try clear c11
              try clear c11b0
              try clear c13
              try clear c13b0
              try clear c14
              try clear c14b0
              try clear p15
              try clear q15
              try clear hx15
              try clear p15
              try clear p2
              try clear p5
              try clear p9
              try clear q15
              try clear q5
              try clear q9
              obtain ⟨kq, x32_7, rfl, HA, HJ7, ⟨mc7, rfl⟩⟩ := hcut
              cases kq with
              | zero => (have HA2 := HA.out; clear HA; revert HA2; rw [refrainref5_skip.j1_zero]; intro h_; cases h_)
              | succ kj7 =>
                have H := HA.out
                clear HA
                simp only [refrainref5_skip.j1] at H
                by_cases c16 : x32_7 = true
                · subst c16
                  have H1 : (some x1_1) = some r := by rw [if_pos rfl] at H; exact H
                  clear H
                  have H := H1
                  clear H1
                  obtain rfl := Option.some.inj H
                  go_wp2
                  go_ret
                  exact ⟨by first | rfl | (simp; done) | (simp [*]; done) | (simp; unfold wrap64; omega) | (congr 1; (try rw [Bool.eq_iff_iff]); simp [List.isEmpty_iff]; done), by repeat (first | exact Drawn0.refl _ | apply Drawn0.step)⟩
                · replace c16 := Bool.eq_false_iff.mpr c16
                  subst c16
                  have H1 : (refrainref5_skip.l1 kj7 a0 x1_1) = some r := by rw [if_neg (show ¬ (false = true) by decide)] at H; exact H
                  clear H
                  have H := H1
                  clear H1
                  have H' := Aside0.mk H
                  clear H
                  go_wp2
                  go_loopg [1] kj7 (fun kq v1 w' => ∃ (x1_3 : Int), v1 = .int .i64 x1_3 ∧ Aside0 (refrainref5_skip.l1 kq a0 x1_3 = some r) ∧ Aside0 (kq ≤ kj7) ∧ Drawn0 w w')
                  case atStart => exact ⟨(x1_1), (by first | rfl | (simp; done) | (simp [*]; done) | (simp; unfold wrap64; omega) | (congr 1; (try rw [Bool.eq_iff_iff]); simp [List.isEmpty_iff]; done)), H', ⟨Nat.le_refl _⟩, by repeat (first | exact Drawn0.refl _ | apply Drawn0.step)⟩
                  case round =>
                    clear H'
                    try clear c1
                    try clear p1
                    try clear q1
                    try clear hx1
                    try clear p2
                    try clear c3
                    try clear c3b0
                    try clear c4
                    try clear c4b0
                    try clear p5
                    try clear q5
                    try clear hx5
                    try clear c6
                    try clear p6
                    try clear c7
                    try clear c8
                    try clear p9
                    try clear q9
                    try clear hx9
                    try clear c10
                    try clear c10b0
                    try clear c10b1
                    try clear c11
                    try clear c11b0
                    try clear c13
                    try clear c13b0
                    try clear c14
                    try clear c14b0
                    try clear p15
                    try clear q15
                    try clear hx15
                    try clear c16
                    try clear p1
                    try clear p15
                    try clear p2
                    try clear p5
                    try clear p6
                    try clear p9
                    try clear q1
                    try clear q15
                    try clear q5
                    try clear q9
                    obtain ⟨x1_3, rfl, HA, HK3, ⟨m3, rfl⟩⟩ := hrel
                    cases gk with
                    | zero => (have HA2 := HA.out; clear HA; revert HA2; rw [refrainref5_skip.l1_zero]; intro h_; cases h_)
                    | succ k3 =>
                      have H := HA.out
                      clear HA
                      simp only [refrainref5_skip.l1] at H
                      by_cases c17 : x1_3 < (a0.size : Int)
                      · rw [if_pos c17] at H
                        have c17b0 : decide (x1_3 < (a0.size : Int)) = true := decide_eq_true c17
                        clear c17
                        by_cases c18 : 0 ≤ x1_3
                        · rw [if_pos c18] at H
                          have c18b0 : decide (0 ≤ x1_3) = true := decide_eq_true c18
                          clear c18
                          by_cases c20 : (bt a0 x1_3) = 10
                          · rw [if_pos c20] at H
                            have c20b0 : ((bt a0 x1_3) == 10) = true := beq_iff_eq.mpr c20
                            have c20b1 : ((bt a0 x1_3) != 10) = false := bne_eq_false_iff_eq.mpr c20
                            clear c20
                            have H' := Aside0.mk H
                            clear H
                            have p19 : 0 ≤ (x1_3 : Int) := of_decide_eq_true (by first | (with_reducible assumption) | assumption)
                            have q19 : x1_3 < (a0.size : Int) := of_decide_eq_true (by first | (with_reducible assumption) | assumption)
                            have hx19 := bt_at a0 x1_3
                            replace p19 := eq_true p19
                            replace q19 := eq_true q19
                            go_wp2
                            go_roundg k3
                            case measure => have := HK1.out; have := HJ7.out; have := HK3.out; omega
                            case rel => exact ⟨(x1_3), (by first | rfl | (simp; done) | (simp [*]; done) | (simp; unfold wrap64; omega) | (congr 1; (try rw [Bool.eq_iff_iff]); simp [List.isEmpty_iff]; done)), H', ⟨by have := HK1.out; have := HJ7.out; have := HK3.out; omega⟩, by repeat (first | exact Drawn0.refl _ | apply Drawn0.step)⟩
                          · rw [if_neg c20] at H
                            have c20b0 : ((bt a0 x1_3) == 10) = false := beq_eq_false_iff_ne.mpr c20
                            have c20b1 : ((bt a0 x1_3) != 10) = true := bne_iff_ne.mpr c20
                            have H' := Aside0.mk H
                            clear H
                            have p19 : 0 ≤ (x1_3 : Int) := of_decide_eq_true (by first | (with_reducible assumption) | assumption)
                            have q19 : x1_3 < (a0.size : Int) := of_decide_eq_true (by first | (with_reducible assumption) | assumption)
                            have hx19 := bt_at a0 x1_3
                            replace p19 := eq_true p19
                            replace q19 := eq_true q19
                            go_wp2
                            go_roundg k3
                            case measure => have := HK1.out; have := HJ7.out; have := HK3.out; omega
                            case rel => exact ⟨(wrap64 (x1_3 + 1)), (by first | rfl | (simp; done) | (simp [*]; done) | (simp; unfold wrap64; omega) | (congr 1; (try rw [Bool.eq_iff_iff]); simp [List.isEmpty_iff]; done)), H', ⟨by have := HK1.out; have := HJ7.out; have := HK3.out; omega⟩, by repeat (first | exact Drawn0.refl _ | apply Drawn0.step)⟩
                        · rw [if_neg c18] at H
                          exact absurd H (by simp)
                      · rw [if_neg c17] at H
                        have c17b0 : decide (x1_3 < (a0.size : Int)) = false := decide_eq_false c17
                        clear c17
                        have H' := Aside0.mk H
                        clear H
                        go_wp2
                        go_roundg k3
                        case measure => have := HK1.out; have := HJ7.out; have := HK3.out; omega
                        case rel => exact ⟨(x1_3), (by first | rfl | (simp; done) | (simp [*]; done) | (simp; unfold wrap64; omega) | (congr 1; (try rw [Bool.eq_iff_iff]); simp [List.isEmpty_iff]; done)), H', ⟨by have := HK1.out; have := HJ7.out; have := HK3.out; omega⟩, by repeat (first | exact Drawn0.refl _ | apply Drawn0.step)⟩
        · rw [if_neg c4] at H
          exact absurd H (by simp)
      · rw [if_neg c3] at H
        have c3b0 : decide (x1_1 < (a0.size : Int)) = false := decide_eq_false c3
        clear c3
        obtain rfl := Option.some.inj H
        go_wp2
        go_ret
        exact ⟨by first | rfl | (simp; done) | (simp [*]; done) | (simp; unfold wrap64; omega) | (congr 1; (try rw [Bool.eq_iff_iff]); simp [List.isEmpty_iff]; done), by repeat (first | exact Drawn0.refl _ | apply Drawn0.step)⟩

/-! ### refrainref5_letter: function 82 -/
def refrainref5_letter.f (a0 : Int) : Option (Bool) := if a0 ≥ 97 then (if a0 ≤ 122 then (some true) else (if a0 ≥ 65 then (if a0 ≤ 90 then (some true) else (some (a0 == 95))) else (some (a0 == 95)))) else (if a0 ≥ 65 then (if a0 ≤ 90 then (some true) else (some (a0 == 95))) else (some (a0 == 95)))
set_option maxHeartbeats 8000000 in
set_option maxRecDepth 100000 in
theorem refrainref5_letter.calls (a0 : Int) (r : Bool) (w : World) (h : refrainref5_letter.f a0 = some r) :
    Calls Tryd.prog 82 #[.int .u8 a0] w fun e w' => e = .returned (.bool r) ∧ Drawn0 w w' := by
  have H : (if a0 ≥ 97 then (if a0 ≤ 122 then (some true) else (if a0 ≥ 65 then (if a0 ≤ 90 then (some true) else (some (a0 == 95))) else (some (a0 == 95)))) else (if a0 ≥ 65 then (if a0 ≤ 90 then (some true) else (some (a0 == 95))) else (some (a0 == 95)))) = some r := h
  clear h
  by_cases c2 : a0 ≥ 97
  · rw [if_pos c2] at H
    have c2b0 : decide (97 ≤ a0) = true := decide_eq_true c2
    clear c2
    by_cases c3 : a0 ≤ 122
    · rw [if_pos c3] at H
      have c3b0 : decide (a0 ≤ 122) = true := decide_eq_true c3
      clear c3
      obtain rfl := Option.some.inj H
      go_enter Tryd.func82, Tryd.ntmps82
      go_wp2
      go_ret
      exact ⟨by first | rfl | (simp; done) | (simp [*]; done) | (simp; unfold wrap64; omega) | (congr 1; (try rw [Bool.eq_iff_iff]); simp [List.isEmpty_iff]; done), by repeat (first | exact Drawn0.refl _ | apply Drawn0.step)⟩
    · rw [if_neg c3] at H
      have c3b0 : decide (a0 ≤ 122) = false := decide_eq_false c3
      clear c3
      by_cases c4 : a0 ≥ 65
      · rw [if_pos c4] at H
        have c4b0 : decide (65 ≤ a0) = true := decide_eq_true c4
        clear c4
        by_cases c5 : a0 ≤ 90
        · rw [if_pos c5] at H
          have c5b0 : decide (a0 ≤ 90) = true := decide_eq_true c5
          clear c5
          obtain rfl := Option.some.inj H
          go_enter Tryd.func82, Tryd.ntmps82
          go_wp2
          go_ret
          exact ⟨by first | rfl | (simp; done) | (simp [*]; done) | (simp; unfold wrap64; omega) | (congr 1; (try rw [Bool.eq_iff_iff]); simp [List.isEmpty_iff]; done), by repeat (first | exact Drawn0.refl _ | apply Drawn0.step)⟩
        · rw [if_neg c5] at H
          have c5b0 : decide (a0 ≤ 90) = false := decide_eq_false c5
          clear c5
          obtain rfl := Option.some.inj H
          go_enter Tryd.func82, Tryd.ntmps82
          go_wp2
          go_ret
          exact ⟨by first | rfl | (simp; done) | (simp [*]; done) | (simp; unfold wrap64; omega) | (congr 1; (try rw [Bool.eq_iff_iff]); simp [List.isEmpty_iff]; done), by repeat (first | exact Drawn0.refl _ | apply Drawn0.step)⟩
      · rw [if_neg c4] at H
        have c4b0 : decide (65 ≤ a0) = false := decide_eq_false c4
        clear c4
        obtain rfl := Option.some.inj H
        go_enter Tryd.func82, Tryd.ntmps82
        go_wp2
        go_ret
        exact ⟨by first | rfl | (simp; done) | (simp [*]; done) | (simp; unfold wrap64; omega) | (congr 1; (try rw [Bool.eq_iff_iff]); simp [List.isEmpty_iff]; done), by repeat (first | exact Drawn0.refl _ | apply Drawn0.step)⟩
  · rw [if_neg c2] at H
    have c2b0 : decide (97 ≤ a0) = false := decide_eq_false c2
    clear c2
    by_cases c6 : a0 ≥ 65
    · rw [if_pos c6] at H
      have c6b0 : decide (65 ≤ a0) = true := decide_eq_true c6
      clear c6
      by_cases c7 : a0 ≤ 90
      · rw [if_pos c7] at H
        have c7b0 : decide (a0 ≤ 90) = true := decide_eq_true c7
        clear c7
        obtain rfl := Option.some.inj H
        go_enter Tryd.func82, Tryd.ntmps82
        go_wp2
        go_ret
        exact ⟨by first | rfl | (simp; done) | (simp [*]; done) | (simp; unfold wrap64; omega) | (congr 1; (try rw [Bool.eq_iff_iff]); simp [List.isEmpty_iff]; done), by repeat (first | exact Drawn0.refl _ | apply Drawn0.step)⟩
      · rw [if_neg c7] at H
        have c7b0 : decide (a0 ≤ 90) = false := decide_eq_false c7
        clear c7
        obtain rfl := Option.some.inj H
        go_enter Tryd.func82, Tryd.ntmps82
        go_wp2
        go_ret
        exact ⟨by first | rfl | (simp; done) | (simp [*]; done) | (simp; unfold wrap64; omega) | (congr 1; (try rw [Bool.eq_iff_iff]); simp [List.isEmpty_iff]; done), by repeat (first | exact Drawn0.refl _ | apply Drawn0.step)⟩
    · rw [if_neg c6] at H
      have c6b0 : decide (65 ≤ a0) = false := decide_eq_false c6
      clear c6
      obtain rfl := Option.some.inj H
      go_enter Tryd.func82, Tryd.ntmps82
      go_wp2
      go_ret
      exact ⟨by first | rfl | (simp; done) | (simp [*]; done) | (simp; unfold wrap64; omega) | (congr 1; (try rw [Bool.eq_iff_iff]); simp [List.isEmpty_iff]; done), by repeat (first | exact Drawn0.refl _ | apply Drawn0.step)⟩

/-! ### refrainref5_digit: function 84 -/
def refrainref5_digit.f (a0 : Int) : Option (Bool) := if a0 ≥ 48 then (some (decide (a0 ≤ 57))) else (some false)
set_option maxHeartbeats 8000000 in
set_option maxRecDepth 100000 in
theorem refrainref5_digit.calls (a0 : Int) (r : Bool) (w : World) (h : refrainref5_digit.f a0 = some r) :
    Calls Tryd.prog 84 #[.int .u8 a0] w fun e w' => e = .returned (.bool r) ∧ Drawn0 w w' := by
  have H : (if a0 ≥ 48 then (some (decide (a0 ≤ 57))) else (some false)) = some r := h
  clear h
  by_cases c2 : a0 ≥ 48
  · rw [if_pos c2] at H
    have c2b0 : decide (48 ≤ a0) = true := decide_eq_true c2
    clear c2
    obtain rfl := Option.some.inj H
    go_enter Tryd.func84, Tryd.ntmps84
    go_wp2
    go_ret
    exact ⟨by first | rfl | (simp; done) | (simp [*]; done) | (simp; unfold wrap64; omega) | (congr 1; (try rw [Bool.eq_iff_iff]); simp [List.isEmpty_iff]; done), by repeat (first | exact Drawn0.refl _ | apply Drawn0.step)⟩
  · rw [if_neg c2] at H
    have c2b0 : decide (48 ≤ a0) = false := decide_eq_false c2
    clear c2
    obtain rfl := Option.some.inj H
    go_enter Tryd.func84, Tryd.ntmps84
    go_wp2
    go_ret
    exact ⟨by first | rfl | (simp; done) | (simp [*]; done) | (simp; unfold wrap64; omega) | (congr 1; (try rw [Bool.eq_iff_iff]); simp [List.isEmpty_iff]; done), by repeat (first | exact Drawn0.refl _ | apply Drawn0.step)⟩

/-! ### refrainref5_run: function 83 -/
def refrainref5_run.l0 : Nat → ByteArray → Int → Bool → Option (Int)
  | 0, _, _, _ => none
  | k + 1, x0, x1, x2 => if x1 < (x0.size : Int) then (if 0 ≤ x1 then ((refrainref5_digit.f (bt x0 x1)).bind fun t548 => (if t548 = true then (refrainref5_run.l0 k x0 (wrap64 (x1 + 1)) x2) else (if x2 = true then ((refrainref5_letter.f (bt x0 x1)).bind fun t549 => (if t549 = true then (refrainref5_run.l0 k x0 (wrap64 (x1 + 1)) x2) else (some x1))) else (some x1)))) else (none)) else (some x1)
def refrainref5_run.f (k : Nat) (a0 : ByteArray) (a1 : Int) (a2 : Bool) : Option (Int) := refrainref5_run.l0 k a0 a1 a2
set_option maxRecDepth 100000 in
theorem refrainref5_run.l0_zero : ∀ y0 y1 y2, refrainref5_run.l0 0 y0 y1 y2 = none := fun _ _ _ => rfl
set_option maxRecDepth 100000 in
theorem refrainref5_run.mono_l : ∀ k, (∀ y0 y1 y2, LeO (refrainref5_run.l0 k y0 y1 y2) (refrainref5_run.l0 (k + 1) y0 y1 y2))
  | 0 => fun _ _ _ r h => by (unfold refrainref5_run.l0 at h; cases h)
  | k + 1 => by
    have ih0 := refrainref5_run.mono_l k
    · intro y0 y1 y2
      unfold refrainref5_run.l0
      repeat' first
      | (with_reducible exact ih0 _ _ _)
      | (with_reducible exact LeO.refl _)
      | (with_reducible exact LeO.none _)
      | (with_reducible refine LeO.ite ?_ ?_)
      | (with_reducible refine LeO.bind ?_ (fun _ => ?_))
      | exact ih0 _ _ _
      | exact LeO.none _
      | refine LeO.ite ?_ ?_
      | refine LeO.bind ?_ (fun _ => ?_)
set_option maxRecDepth 100000 in
theorem refrainref5_run.mono : ∀ a0 a1 a2 k, LeO (refrainref5_run.f k a0 a1 a2) (refrainref5_run.f (k + 1) a0 a1 a2) := by
  intro a0 a1 a2 k
  have ih0 := refrainref5_run.mono_l k
  unfold refrainref5_run.f
  repeat' first
      | (with_reducible exact ih0 _ _ _)
      | (with_reducible exact LeO.refl _)
      | (with_reducible exact LeO.none _)
      | (with_reducible refine LeO.ite ?_ ?_)
      | (with_reducible refine LeO.bind ?_ (fun _ => ?_))
      | exact ih0 _ _ _
      | exact LeO.none _
      | refine LeO.ite ?_ ?_
      | refine LeO.bind ?_ (fun _ => ?_)
set_option maxHeartbeats 8000000 in
set_option maxRecDepth 100000 in
theorem refrainref5_run.calls (k : Nat) (a0 : ByteArray) (a1 : Int) (a2 : Bool) (r : Int) (w : World) (h : refrainref5_run.f k a0 a1 a2 = some r) :
    Calls Tryd.prog 83 #[.string a0, .int .i64 a1, .bool a2] w fun e w' => e = .returned (.int .i64 r) ∧ Drawn0 w w' := by
  have H : (refrainref5_run.l0 k a0 a1 a2) = some r := h
  clear h
  have H' := Aside0.mk H
  clear H
  go_enter Tryd.func83, Tryd.ntmps83
  go_wp2
  go_loopg [1] k (fun kq v1 w' => ∃ (x1_1 : Int), v1 = .int .i64 x1_1 ∧ Aside0 (refrainref5_run.l0 kq a0 x1_1 a2 = some r) ∧ Aside0 (kq ≤ k) ∧ Drawn0 w w')
  case atStart => exact ⟨(a1), (by first | rfl | (simp; done) | (simp [*]; done) | (simp; unfold wrap64; omega) | (congr 1; (try rw [Bool.eq_iff_iff]); simp [List.isEmpty_iff]; done)), H', ⟨Nat.le_refl _⟩, by repeat (first | exact Drawn0.refl _ | apply Drawn0.step)⟩
  case round =>
    clear H'
    try clear p2
    obtain ⟨x1_1, rfl, HA, HK1, ⟨m1, rfl⟩⟩ := hrel
    cases gk with
    | zero => (have HA2 := HA.out; clear HA; revert HA2; rw [refrainref5_run.l0_zero]; intro h_; cases h_)
    | succ k1 =>
      have H := HA.out
      clear HA
      simp only [refrainref5_run.l0] at H
      by_cases c4 : x1_1 < (a0.size : Int)
      · rw [if_pos c4] at H
        have c4b0 : decide (x1_1 < (a0.size : Int)) = true := decide_eq_true c4
        clear c4
        by_cases c5 : 0 ≤ x1_1
        · rw [if_pos c5] at H
          have c5b0 : decide (0 ≤ x1_1) = true := decide_eq_true c5
          clear c5
          replace H := Option.bind_eq_some_iff.mp H
          obtain ⟨t548, A70, H⟩ := H
          replace H : (if t548 = true then (refrainref5_run.l0 k1 a0 (wrap64 (x1_1 + 1)) a2) else (if a2 = true then ((refrainref5_letter.f (bt a0 x1_1)).bind fun t549 => (if t549 = true then (refrainref5_run.l0 k1 a0 (wrap64 (x1_1 + 1)) a2) else (some x1_1))) else (some x1_1))) = some r := H
          have A7 := Aside0.mk A70
          clear A70
          by_cases c8 : t548 = true
          · subst c8
            have H1 : (refrainref5_run.l0 k1 a0 (wrap64 (x1_1 + 1)) a2) = some r := by rw [if_pos rfl] at H; exact H
            clear H
            have H := H1
            clear H1
            have H' := Aside0.mk H
            clear H
            have p6 : 0 ≤ (x1_1 : Int) := of_decide_eq_true (by first | (with_reducible assumption) | assumption)
            have q6 : x1_1 < (a0.size : Int) := of_decide_eq_true (by first | (with_reducible assumption) | assumption)
            have hx6 := bt_at a0 x1_1
            replace p6 := eq_true p6
            replace q6 := eq_true q6
            go_wp2_with (first | (go_at_call 84; (with_reducible refine (refrainref5_digit.calls (bt a0 x1_1) true _ A7.out).mono ?_); rintro e w' ⟨rfl, ⟨nd, rfl⟩⟩))
            go_roundg k1
            case measure => have := HK1.out; omega
            case rel => exact ⟨(wrap64 (x1_1 + 1)), (by first | rfl | (simp; done) | (simp [*]; done) | (simp; unfold wrap64; omega) | (congr 1; (try rw [Bool.eq_iff_iff]); simp [List.isEmpty_iff]; done)), H', ⟨by have := HK1.out; omega⟩, by repeat (first | exact Drawn0.refl _ | apply Drawn0.step)⟩
          · replace c8 := Bool.eq_false_iff.mpr c8
            subst c8
            have H1 : (if a2 = true then ((refrainref5_letter.f (bt a0 x1_1)).bind fun t549 => (if t549 = true then (refrainref5_run.l0 k1 a0 (wrap64 (x1_1 + 1)) a2) else (some x1_1))) else (some x1_1)) = some r := by rw [if_neg (show ¬ (false = true) by decide)] at H; exact H
            clear H
            have H := H1
            clear H1
            by_cases c9 : a2 = true
            · subst c9
              have H1 : ((refrainref5_letter.f (bt a0 x1_1)).bind fun t549 => (if t549 = true then (refrainref5_run.l0 k1 a0 (wrap64 (x1_1 + 1)) true) else (some x1_1))) = some r := by rw [if_pos rfl] at H; exact H
              clear H
              have H := H1
              clear H1
              replace H := Option.bind_eq_some_iff.mp H
              obtain ⟨t549, A110, H⟩ := H
              replace H : (if t549 = true then (refrainref5_run.l0 k1 a0 (wrap64 (x1_1 + 1)) true) else (some x1_1)) = some r := H
              have A11 := Aside0.mk A110
              clear A110
              by_cases c12 : t549 = true
              · subst c12
                have H1 : (refrainref5_run.l0 k1 a0 (wrap64 (x1_1 + 1)) true) = some r := by rw [if_pos rfl] at H; exact H
                clear H
                have H := H1
                clear H1
                have H' := Aside0.mk H
                clear H
                have p6 : 0 ≤ (x1_1 : Int) := of_decide_eq_true (by first | (with_reducible assumption) | assumption)
                have q6 : x1_1 < (a0.size : Int) := of_decide_eq_true (by first | (with_reducible assumption) | assumption)
                have hx6 := bt_at a0 x1_1
                replace p6 := eq_true p6
                replace q6 := eq_true q6
                go_wp2_with (first | (go_at_call 84; (with_reducible refine (refrainref5_digit.calls (bt a0 x1_1) false _ A7.out).mono ?_); rintro e w' ⟨rfl, ⟨nd, rfl⟩⟩; have p10 : 0 ≤ (x1_1 : Int) := of_decide_eq_true (by first | (with_reducible assumption) | assumption); have q10 : x1_1 < (a0.size : Int) := of_decide_eq_true (by first | (with_reducible assumption) | assumption); have hx10 := bt_at a0 x1_1; replace p10 := eq_true p10; replace q10 := eq_true q10) | (go_at_call 82; (with_reducible refine (refrainref5_letter.calls (bt a0 x1_1) true _ A11.out).mono ?_); rintro e w' ⟨rfl, ⟨nd, rfl⟩⟩))
                go_roundg k1
                case measure => have := HK1.out; omega
                case rel => exact ⟨(wrap64 (x1_1 + 1)), (by first | rfl | (simp; done) | (simp [*]; done) | (simp; unfold wrap64; omega) | (congr 1; (try rw [Bool.eq_iff_iff]); simp [List.isEmpty_iff]; done)), H', ⟨by have := HK1.out; omega⟩, by repeat (first | exact Drawn0.refl _ | apply Drawn0.step)⟩
              · replace c12 := Bool.eq_false_iff.mpr c12
                subst c12
                have H1 : (some x1_1) = some r := by rw [if_neg (show ¬ (false = true) by decide)] at H; exact H
                clear H
                have H := H1
                clear H1
                obtain rfl := Option.some.inj H
                have p6 : 0 ≤ (x1_1 : Int) := of_decide_eq_true (by first | (with_reducible assumption) | assumption)
                have q6 : x1_1 < (a0.size : Int) := of_decide_eq_true (by first | (with_reducible assumption) | assumption)
                have hx6 := bt_at a0 x1_1
                replace p6 := eq_true p6
                replace q6 := eq_true q6
                go_wp2_with (first | (go_at_call 84; (with_reducible refine (refrainref5_digit.calls (bt a0 x1_1) false _ A7.out).mono ?_); rintro e w' ⟨rfl, ⟨nd, rfl⟩⟩; have p10 : 0 ≤ (x1_1 : Int) := of_decide_eq_true (by first | (with_reducible assumption) | assumption); have q10 : x1_1 < (a0.size : Int) := of_decide_eq_true (by first | (with_reducible assumption) | assumption); have hx10 := bt_at a0 x1_1; replace p10 := eq_true p10; replace q10 := eq_true q10) | (go_at_call 82; (with_reducible refine (refrainref5_letter.calls (bt a0 x1_1) false _ A11.out).mono ?_); rintro e w' ⟨rfl, ⟨nd, rfl⟩⟩))
                go_ret
                exact ⟨by first | rfl | (simp; done) | (simp [*]; done) | (simp; unfold wrap64; omega) | (congr 1; (try rw [Bool.eq_iff_iff]); simp [List.isEmpty_iff]; done), by repeat (first | exact Drawn0.refl _ | apply Drawn0.step)⟩
            · replace c9 := Bool.eq_false_iff.mpr c9
              subst c9
              have H1 : (some x1_1) = some r := by rw [if_neg (show ¬ (false = true) by decide)] at H; exact H
              clear H
              have H := H1
              clear H1
              obtain rfl := Option.some.inj H
              have p6 : 0 ≤ (x1_1 : Int) := of_decide_eq_true (by first | (with_reducible assumption) | assumption)
              have q6 : x1_1 < (a0.size : Int) := of_decide_eq_true (by first | (with_reducible assumption) | assumption)
              have hx6 := bt_at a0 x1_1
              replace p6 := eq_true p6
              replace q6 := eq_true q6
              go_wp2_with (first | (go_at_call 84; (with_reducible refine (refrainref5_digit.calls (bt a0 x1_1) false _ A7.out).mono ?_); rintro e w' ⟨rfl, ⟨nd, rfl⟩⟩))
              go_ret
              exact ⟨by first | rfl | (simp; done) | (simp [*]; done) | (simp; unfold wrap64; omega) | (congr 1; (try rw [Bool.eq_iff_iff]); simp [List.isEmpty_iff]; done), by repeat (first | exact Drawn0.refl _ | apply Drawn0.step)⟩
        · rw [if_neg c5] at H
          exact absurd H (by simp)
      · rw [if_neg c4] at H
        have c4b0 : decide (x1_1 < (a0.size : Int)) = false := decide_eq_false c4
        clear c4
        obtain rfl := Option.some.inj H
        go_wp2
        go_ret
        exact ⟨by first | rfl | (simp; done) | (simp [*]; done) | (simp; unfold wrap64; omega) | (congr 1; (try rw [Bool.eq_iff_iff]); simp [List.isEmpty_iff]; done), by repeat (first | exact Drawn0.refl _ | apply Drawn0.step)⟩

end Go.Proofs.YthmcapdakplhdaaDoor.Pr
end

/-! ## text Prx25 -/
section
namespace Go.Proofs.YthmcapdakplhdaaDoor.Pr
open Go.RowKit Go.Proofs.YthmcapdakplhdaaDoorW.PrintWords Go.Proofs.YthmcapdakplhdaaDoorW.PrintLast Go.Proofs.YthmcapdakplhdaaDoorW.PrintMore
attribute [local go_sem] max2_int min2_int max_two min_two max_three min_three max_four min_four   -- for this text's walks alone
attribute [local go_sem high] Go.Proofs.YthmcapdakplhdaaDoor.isSome_setCell
set_option maxRecDepth 100000
set_option linter.unusedVariables false
set_option linter.unusedSimpArgs false

/-! ### refrainref5_small: function 85 -/
def refrainref5_small.j0 : Nat → ByteArray → Bool → Option (Bool)
  | 0, _, _ => none
  | k + 1, x0, x10 => if x10 = true then (some false) else (if (x0.size : Int) = 19 then (if (Op.bytesLess x0.toList ([57, 50, 50, 51, 51, 55, 50, 48, 51, 54, 56, 53, 52, 55, 55, 53, 56, 48, 55] : List UInt8)) = true then (some true) else (if x0.toList = ([57, 50, 50, 51, 51, 55, 50, 48, 51, 54, 56, 53, 52, 55, 55, 53, 56, 48, 55] : List UInt8) then (some true) else (some false))) else (some (decide ((x0.size : Int) < 19))))
def refrainref5_small.f (k : Nat) (a0 : ByteArray) : Option (Bool) := if (a0.size : Int) > 1 then (if 0 < (a0.size : Int) then (refrainref5_small.j0 k a0 ((bt a0 0) == 48)) else (none)) else (refrainref5_small.j0 k a0 false)
set_option maxRecDepth 100000 in
theorem refrainref5_small.j0_zero : ∀ y0 y1, refrainref5_small.j0 0 y0 y1 = none := fun _ _ => rfl
set_option maxRecDepth 100000 in
theorem refrainref5_small.mono_l : ∀ k, (∀ y0 y1, LeO (refrainref5_small.j0 k y0 y1) (refrainref5_small.j0 (k + 1) y0 y1))
  | 0 => fun _ _ r h => by (unfold refrainref5_small.j0 at h; cases h)
  | k + 1 => by
    have ih0 := refrainref5_small.mono_l k
    · intro y0 y1
      unfold refrainref5_small.j0
      repeat' first
      | (with_reducible exact ih0 _ _)
      | (with_reducible exact LeO.refl _)
      | (with_reducible exact LeO.none _)
      | (with_reducible refine LeO.ite ?_ ?_)
      | (with_reducible refine LeO.bind ?_ (fun _ => ?_))
      | exact ih0 _ _
      | exact LeO.none _
      | refine LeO.ite ?_ ?_
      | refine LeO.bind ?_ (fun _ => ?_)
set_option maxRecDepth 100000 in
theorem refrainref5_small.mono : ∀ a0 k, LeO (refrainref5_small.f k a0) (refrainref5_small.f (k + 1) a0) := by
  intro a0 k
  have ih0 := refrainref5_small.mono_l k
  unfold refrainref5_small.f
  repeat' first
      | (with_reducible exact ih0 _ _)
      | (with_reducible exact LeO.refl _)
      | (with_reducible exact LeO.none _)
      | (with_reducible refine LeO.ite ?_ ?_)
      | (with_reducible refine LeO.bind ?_ (fun _ => ?_))
      | exact ih0 _ _
      | exact LeO.none _
      | refine LeO.ite ?_ ?_
      | refine LeO.bind ?_ (fun _ => ?_)
set_option maxHeartbeats 8000000 in
set_option maxRecDepth 100000 in
theorem refrainref5_small.calls (k : Nat) (a0 : ByteArray) (r : Bool) (w : World) (h : refrainref5_small.f k a0 = some r) :
    Calls Tryd.prog 85 #[.string a0] w fun e w' => e = .returned (.bool r) ∧ Drawn0 w w' := by
  have H : (if (a0.size : Int) > 1 then (if 0 < (a0.size : Int) then (refrainref5_small.j0 k a0 ((bt a0 0) == 48)) else (none)) else (refrainref5_small.j0 k a0 false)) = some r := h
  clear h
  have HC2 := Aside0.mk H
  clear H
  go_enter Tryd.func85, Tryd.ntmps85
  go_upto_region 1 with (fail)
  go_cut [10] (fun v10 wc => ∃ (kq : Nat) (x10_1 : Bool), v10 = .bool x10_1 ∧ Aside0 (refrainref5_small.j0 kq a0 x10_1 = some r) ∧ Aside0 (kq ≤ k) ∧ Drawn0 w wc)
  case first =>
    have H := HC2.out
    clear HC2
    by_cases c3 : (a0.size : Int) > 1
    · rw [if_pos c3] at H
      have c3b0 : decide (1 < (a0.size : Int)) = true := decide_eq_true c3
      have c3b1 : decide (1 < a0.size) = true := decide_eq_true (by omega)
      clear c3
      (first | rw [c3b0] | (simp only [i64_w, i32_w, IntKind.wrap_u8, IntKind.wrap_u16, IntKind.wrap_u32]; rw [c3b0]) | skip)
      by_cases c4 : 0 < (a0.size : Int)
      · rw [if_pos c4] at H
        have c4b0 : decide (0 < (a0.size : Int)) = true := decide_eq_true c4
        have c4b1 : decide (0 < a0.size) = true := decide_eq_true (by omega)
        clear c4
        have H' := Aside0.mk H
        clear H
        have p5 : 0 ≤ (0 : Int) := (by omega)
        have q5 : 0 < a0.size := (by have : (0 : Int) < (a0.size : Int) := of_decide_eq_true (by first | (with_reducible assumption) | assumption); omega)
        have hx5 : ∀ h : 0 < a0.size, ((a0[0]'h).toNat : Int) = bt a0 0 := bt_at a0 0
        clear p5
        have qi5 : (0 < (a0.size : Int)) = True := eq_true (of_decide_eq_true (by first | (with_reducible assumption) | assumption))
        replace q5 := eq_true q5
        go_wp2
        go_meet
        case rel => exact ⟨_, (((bt a0 0) == 48)), (by first | rfl | (simp; done) | (simp [*]; done) | (simp; unfold wrap64; omega) | (congr 1; (try rw [Bool.eq_iff_iff]); simp [List.isEmpty_iff]; done)), H', ⟨by first | omega | exact Nat.le_refl _⟩, by repeat (first | exact Drawn0.refl _ | apply Drawn0.step)⟩
      · rw [if_neg c4] at H
        exact absurd H (by simp)
    · rw [if_neg c3] at H
      have c3b0 : decide (1 < (a0.size : Int)) = false := decide_eq_false c3
      have c3b1 : decide (1 < a0.size) = false := decide_eq_false (by omega)
      clear c3
      (first | rw [c3b0] | (simp only [i64_w, i32_w, IntKind.wrap_u8, IntKind.wrap_u16, IntKind.wrap_u32]; rw [c3b0]) | skip)
      have H' := Aside0.mk H
      clear H
      go_wp2
      go_meet
      case rel => exact ⟨_, (false), (by first | rfl | (simp; done) | (simp [*]; done) | (simp; unfold wrap64; omega) | (congr 1; (try rw [Bool.eq_iff_iff]); simp [List.isEmpty_iff]; done)), H', ⟨by first | omega | exact Nat.le_refl _⟩, by repeat (first | exact Drawn0.refl _ | apply Drawn0.step)⟩
  case rest =>
    clear HC2
    try clear p2
    try clear c3
    try clear c3b0
    try clear c3b1
    try clear c4
    try clear c4b0
    try clear c4b1
    try clear p5
    try clear q5
    try clear hx5
    try clear qi5
    try clear p5
    try clear q5
    obtain ⟨kq, x10_1, rfl, HA, HJ1, ⟨mc1, rfl⟩⟩ := hcut
    cases kq with
    | zero => (have HA2 := HA.out; clear HA; revert HA2; rw [refrainref5_small.j0_zero]; intro h_; cases h_)
    | succ kj1 =>
      have H := HA.out
      clear HA
      simp only [refrainref5_small.j0] at H
      by_cases c6 : x10_1 = true
      · subst c6
        have H1 : (some false) = some r := by rw [if_pos rfl] at H; exact H
        clear H
        have H := H1
        clear H1
        obtain rfl := Option.some.inj H
        go_wp2
        go_ret
        exact ⟨by first | rfl | (simp; done) | (simp [*]; done) | (simp; unfold wrap64; omega) | (congr 1; (try rw [Bool.eq_iff_iff]); simp [List.isEmpty_iff]; done), by repeat (first | exact Drawn0.refl _ | apply Drawn0.step)⟩
      · replace c6 := Bool.eq_false_iff.mpr c6
        subst c6
        have H1 : (if (a0.size : Int) = 19 then (if (Op.bytesLess a0.toList ([57, 50, 50, 51, 51, 55, 50, 48, 51, 54, 56, 53, 52, 55, 55, 53, 56, 48, 55] : List UInt8)) = true then (some true) else (if a0.toList = ([57, 50, 50, 51, 51, 55, 50, 48, 51, 54, 56, 53, 52, 55, 55, 53, 56, 48, 55] : List UInt8) then (some true) else (some false))) else (some (decide ((a0.size : Int) < 19)))) = some r := by rw [if_neg (show ¬ (false = true) by decide)] at H; exact H
        clear H
        have H := H1
        clear H1
        by_cases c7 : (a0.size : Int) = 19
        · rw [if_pos c7] at H
          have c7b0 : ((a0.size : Int) == 19) = true := beq_iff_eq.mpr c7
          have c7b1 : ((a0.size : Int) != 19) = false := bne_eq_false_iff_eq.mpr c7
          clear c7
          by_cases c8 : (Op.bytesLess a0.toList ([57, 50, 50, 51, 51, 55, 50, 48, 51, 54, 56, 53, 52, 55, 55, 53, 56, 48, 55] : List UInt8)) = true
          · rw [if_pos c8] at H
            have c8b0 : (Op.bytesLess a0.toList ([57, 50, 50, 51, 51, 55, 50, 48, 51, 54, 56, 53, 52, 55, 55, 53, 56, 48, 55] : List UInt8)) = true := c8
            clear c8
            obtain rfl := Option.some.inj H
            go_wp2
            go_ret
            exact ⟨by first | rfl | (simp; done) | (simp [*]; done) | (simp; unfold wrap64; omega) | (congr 1; (try rw [Bool.eq_iff_iff]); simp [List.isEmpty_iff]; done), by repeat (first | exact Drawn0.refl _ | apply Drawn0.step)⟩
          · rw [if_neg c8] at H
            have c8b0 : (Op.bytesLess a0.toList ([57, 50, 50, 51, 51, 55, 50, 48, 51, 54, 56, 53, 52, 55, 55, 53, 56, 48, 55] : List UInt8)) = false := by simpa using c8
            clear c8
            by_cases c9 : a0.toList = ([57, 50, 50, 51, 51, 55, 50, 48, 51, 54, 56, 53, 52, 55, 55, 53, 56, 48, 55] : List UInt8)
            · rw [if_pos c9] at H
              have c9b0 : (a0.toList == ([57, 50, 50, 51, 51, 55, 50, 48, 51, 54, 56, 53, 52, 55, 55, 53, 56, 48, 55] : List UInt8)) = true := beq_iff_eq.mpr c9
              have c9b1 : (a0.toList != ([57, 50, 50, 51, 51, 55, 50, 48, 51, 54, 56, 53, 52, 55, 55, 53, 56, 48, 55] : List UInt8)) = false := bne_eq_false_iff_eq.mpr c9
              clear c9
              obtain rfl := Option.some.inj H
              go_wp2
              go_ret
              exact ⟨by first | rfl | (simp; done) | (simp [*]; done) | (simp; unfold wrap64; omega) | (congr 1; (try rw [Bool.eq_iff_iff]); simp [List.isEmpty_iff]; done), by repeat (first | exact Drawn0.refl _ | apply Drawn0.step)⟩
            · rw [if_neg c9] at H
              have c9b0 : (a0.toList == ([57, 50, 50, 51, 51, 55, 50, 48, 51, 54, 56, 53, 52, 55, 55, 53, 56, 48, 55] : List UInt8)) = false := beq_eq_false_iff_ne.mpr c9
              have c9b1 : (a0.toList != ([57, 50, 50, 51, 51, 55, 50, 48, 51, 54, 56, 53, 52, 55, 55, 53, 56, 48, 55] : List UInt8)) = true := bne_iff_ne.mpr c9
              obtain rfl := Option.some.inj H
              go_wp2
              go_ret
              exact ⟨by first | rfl | (simp; done) | (simp [*]; done) | (simp; unfold wrap64; omega) | (congr 1; (try rw [Bool.eq_iff_iff]); simp [List.isEmpty_iff]; done), by repeat (first | exact Drawn0.refl _ | apply Drawn0.step)⟩
        · rw [if_neg c7] at H
          have c7b0 : ((a0.size : Int) == 19) = false := beq_eq_false_iff_ne.mpr c7
          have c7b1 : ((a0.size : Int) != 19) = true := bne_iff_ne.mpr c7
          obtain rfl := Option.some.inj H
          go_wp2
          go_ret
          exact ⟨by first | rfl | (simp; done) | (simp [*]; done) | (simp; unfold wrap64; omega) | (congr 1; (try rw [Bool.eq_iff_iff]); simp [List.isEmpty_iff]; done), by repeat (first | exact Drawn0.refl _ | apply Drawn0.step)⟩

/-! ### refrainref5_hex: function 116 -/
def refrainref5_hex.l0 : Nat → Int → ByteArray → ByteArray → Int → Option (Int)
  | 0, _, _, _, _ => none
  | k + 1, x0, x3, x4, x5 => if x5 < 16 then (if 0 ≤ x5 then (if x5 < (x3.size : Int) then (if (bt x3 x5) = x0 then (some x5) else (if x5 < (x4.size : Int) then (if (bt x4 x5) = x0 then (some x5) else (refrainref5_hex.l0 k x0 x3 x4 (wrap64 (x5 + 1)))) else (none))) else (none)) else (none)) else (some (-1))
def refrainref5_hex.f (k : Nat) (a0 : Int) : Option (Int) := refrainref5_hex.l0 k a0 (⟨#[48, 49, 50, 51, 52, 53, 54, 55, 56, 57, 97, 98, 99, 100, 101, 102]⟩ : ByteArray) (⟨#[48, 49, 50, 51, 52, 53, 54, 55, 56, 57, 65, 66, 67, 68, 69, 70]⟩ : ByteArray) 0
set_option maxRecDepth 100000 in
theorem refrainref5_hex.l0_zero : ∀ y0 y1 y2 y3, refrainref5_hex.l0 0 y0 y1 y2 y3 = none := fun _ _ _ _ => rfl
set_option maxRecDepth 100000 in
theorem refrainref5_hex.mono_l : ∀ k, (∀ y0 y1 y2 y3, LeO (refrainref5_hex.l0 k y0 y1 y2 y3) (refrainref5_hex.l0 (k + 1) y0 y1 y2 y3))
  | 0 => fun _ _ _ _ r h => by (unfold refrainref5_hex.l0 at h; cases h)
  | k + 1 => by
    have ih0 := refrainref5_hex.mono_l k
    · intro y0 y1 y2 y3
      unfold refrainref5_hex.l0
      repeat' first
      | (with_reducible exact ih0 _ _ _ _)
      | (with_reducible exact LeO.refl _)
      | (with_reducible exact LeO.none _)
      | (with_reducible refine LeO.ite ?_ ?_)
      | (with_reducible refine LeO.bind ?_ (fun _ => ?_))
      | exact ih0 _ _ _ _
      | exact LeO.none _
      | refine LeO.ite ?_ ?_
      | refine LeO.bind ?_ (fun _ => ?_)
set_option maxRecDepth 100000 in
theorem refrainref5_hex.mono : ∀ a0 k, LeO (refrainref5_hex.f k a0) (refrainref5_hex.f (k + 1) a0) := by
  intro a0 k
  have ih0 := refrainref5_hex.mono_l k
  unfold refrainref5_hex.f
  repeat' first
      | (with_reducible exact ih0 _ _ _ _)
      | (with_reducible exact LeO.refl _)
      | (with_reducible exact LeO.none _)
      | (with_reducible refine LeO.ite ?_ ?_)
      | (with_reducible refine LeO.bind ?_ (fun _ => ?_))
      | exact ih0 _ _ _ _
      | exact LeO.none _
      | refine LeO.ite ?_ ?_
      | refine LeO.bind ?_ (fun _ => ?_)
set_option maxHeartbeats 8000000 in
set_option maxRecDepth 100000 in
theorem refrainref5_hex.calls (k : Nat) (a0 : Int) (r : Int) (w : World) (h : refrainref5_hex.f k a0 = some r) :
    Calls Tryd.prog 116 #[.int .u8 a0] w fun e w' => e = .returned (.int .i64 r) ∧ Drawn0 w w' := by
  have H : (refrainref5_hex.l0 k a0 (⟨#[48, 49, 50, 51, 52, 53, 54, 55, 56, 57, 97, 98, 99, 100, 101, 102]⟩ : ByteArray) (⟨#[48, 49, 50, 51, 52, 53, 54, 55, 56, 57, 65, 66, 67, 68, 69, 70]⟩ : ByteArray) 0) = some r := h
  clear h
  have H' := Aside0.mk H
  clear H
  go_enter Tryd.func116, Tryd.ntmps116
  go_wp2
  go_loopg [5] k (fun kq v5 w' => ∃ (x5_1 : Int), v5 = .int .i64 x5_1 ∧ Aside0 (refrainref5_hex.l0 kq a0 (⟨#[48, 49, 50, 51, 52, 53, 54, 55, 56, 57, 97, 98, 99, 100, 101, 102]⟩ : ByteArray) (⟨#[48, 49, 50, 51, 52, 53, 54, 55, 56, 57, 65, 66, 67, 68, 69, 70]⟩ : ByteArray) x5_1 = some r) ∧ Aside0 (kq ≤ k) ∧ Drawn0 w w')
  case atStart => exact ⟨(0), (by first | rfl | (simp; done) | (simp [*]; done) | (simp; unfold wrap64; omega) | (congr 1; (try rw [Bool.eq_iff_iff]); simp [List.isEmpty_iff]; done)), H', ⟨Nat.le_refl _⟩, by repeat (first | exact Drawn0.refl _ | apply Drawn0.step)⟩
  case round =>
    clear H'
    try clear c1
    obtain ⟨x5_1, rfl, HA, HK1, ⟨m1, rfl⟩⟩ := hrel
    cases gk with
    | zero => (have HA2 := HA.out; clear HA; revert HA2; rw [refrainref5_hex.l0_zero]; intro h_; cases h_)
    | succ k1 =>
      have H := HA.out
      clear HA
      simp only [refrainref5_hex.l0] at H
      by_cases c2 : x5_1 < 16
      · rw [if_pos c2] at H
        have c2b0 : decide (x5_1 < 16) = true := decide_eq_true c2
        clear c2
        by_cases c3 : 0 ≤ x5_1
        · rw [if_pos c3] at H
          have c3b0 : decide (0 ≤ x5_1) = true := decide_eq_true c3
          clear c3
          by_cases c4 : x5_1 < ((⟨#[48, 49, 50, 51, 52, 53, 54, 55, 56, 57, 97, 98, 99, 100, 101, 102]⟩ : ByteArray).size : Int)
          · rw [if_pos c4] at H
            have c4b0 : decide (x5_1 < ((⟨#[48, 49, 50, 51, 52, 53, 54, 55, 56, 57, 97, 98, 99, 100, 101, 102]⟩ : ByteArray).size : Int)) = true := decide_eq_true c4
            clear c4
            by_cases c6 : (bt (⟨#[48, 49, 50, 51, 52, 53, 54, 55, 56, 57, 97, 98, 99, 100, 101, 102]⟩ : ByteArray) x5_1) = a0
            · rw [if_pos c6] at H
              have c6b0 : ((bt (⟨#[48, 49, 50, 51, 52, 53, 54, 55, 56, 57, 97, 98, 99, 100, 101, 102]⟩ : ByteArray) x5_1) == a0) = true := beq_iff_eq.mpr c6
              have c6b1 : ((bt (⟨#[48, 49, 50, 51, 52, 53, 54, 55, 56, 57, 97, 98, 99, 100, 101, 102]⟩ : ByteArray) x5_1) != a0) = false := bne_eq_false_iff_eq.mpr c6
              clear c6
              obtain rfl := Option.some.inj H
              have p5 : 0 ≤ (x5_1 : Int) := of_decide_eq_true (by first | (with_reducible assumption) | assumption)
              have q5 : x5_1 < (16 : Int) := of_decide_eq_true (by first | (with_reducible assumption) | assumption)
              have hx5 := bt_at (⟨#[48, 49, 50, 51, 52, 53, 54, 55, 56, 57, 97, 98, 99, 100, 101, 102]⟩ : ByteArray) x5_1
              replace p5 := eq_true p5
              replace q5 := eq_true q5
              go_wp2
              go_ret
              exact ⟨by first | rfl | (simp; done) | (simp [*]; done) | (simp; unfold wrap64; omega) | (congr 1; (try rw [Bool.eq_iff_iff]); simp [List.isEmpty_iff]; done), by repeat (first | exact Drawn0.refl _ | apply Drawn0.step)⟩
            · rw [if_neg c6] at H
              have c6b0 : ((bt (⟨#[48, 49, 50, 51, 52, 53, 54, 55, 56, 57, 97, 98, 99, 100, 101, 102]⟩ : ByteArray) x5_1) == a0) = false := beq_eq_false_iff_ne.mpr c6
              have c6b1 : ((bt (⟨#[48, 49, 50, 51, 52, 53, 54, 55, 56, 57, 97, 98, 99, 100, 101, 102]⟩ : ByteArray) x5_1) != a0) = true := bne_iff_ne.mpr c6
              by_cases c7 : x5_1 < ((⟨#[48, 49, 50, 51, 52, 53, 54, 55, 56, 57, 65, 66, 67, 68, 69, 70]⟩ : ByteArray).size : Int)
              · rw [if_pos c7] at H
                have c7b0 : decide (x5_1 < ((⟨#[48, 49, 50, 51, 52, 53, 54, 55, 56, 57, 65, 66, 67, 68, 69, 70]⟩ : ByteArray).size : Int)) = true := decide_eq_true c7
                clear c7
                by_cases c9 : (bt (⟨#[48, 49, 50, 51, 52, 53, 54, 55, 56, 57, 65, 66, 67, 68, 69, 70]⟩ : ByteArray) x5_1) = a0
                · rw [if_pos c9] at H
                  have c9b0 : ((bt (⟨#[48, 49, 50, 51, 52, 53, 54, 55, 56, 57, 65, 66, 67, 68, 69, 70]⟩ : ByteArray) x5_1) == a0) = true := beq_iff_eq.mpr c9
                  have c9b1 : ((bt (⟨#[48, 49, 50, 51, 52, 53, 54, 55, 56, 57, 65, 66, 67, 68, 69, 70]⟩ : ByteArray) x5_1) != a0) = false := bne_eq_false_iff_eq.mpr c9
                  clear c9
                  obtain rfl := Option.some.inj H
                  have p5 : 0 ≤ (x5_1 : Int) := of_decide_eq_true (by first | (with_reducible assumption) | assumption)
                  have q5 : x5_1 < (16 : Int) := of_decide_eq_true (by first | (with_reducible assumption) | assumption)
                  have hx5 := bt_at (⟨#[48, 49, 50, 51, 52, 53, 54, 55, 56, 57, 97, 98, 99, 100, 101, 102]⟩ : ByteArray) x5_1
                  replace p5 := eq_true p5
                  replace q5 := eq_true q5
                  have p8 : 0 ≤ (x5_1 : Int) := of_decide_eq_true (by first | (with_reducible assumption) | assumption)
                  have q8 : x5_1 < (16 : Int) := of_decide_eq_true (by first | (with_reducible assumption) | assumption)
                  have hx8 := bt_at (⟨#[48, 49, 50, 51, 52, 53, 54, 55, 56, 57, 65, 66, 67, 68, 69, 70]⟩ : ByteArray) x5_1
                  replace p8 := eq_true p8
                  replace q8 := eq_true q8
                  go_wp2
                  go_ret
                  exact ⟨by first | rfl | (simp; done) | (simp [*]; done) | (simp; unfold wrap64; omega) | (congr 1; (try rw [Bool.eq_iff_iff]); simp [List.isEmpty_iff]; done), by repeat (first | exact Drawn0.refl _ | apply Drawn0.step)⟩
                · rw [if_neg c9] at H
                  have c9b0 : ((bt (⟨#[48, 49, 50, 51, 52, 53, 54, 55, 56, 57, 65, 66, 67, 68, 69, 70]⟩ : ByteArray) x5_1) == a0) = false := beq_eq_false_iff_ne.mpr c9
                  have c9b1 : ((bt (⟨#[48, 49, 50, 51, 52, 53, 54, 55, 56, 57, 65, 66, 67, 68, 69, 70]⟩ : ByteArray) x5_1) != a0) = true := bne_iff_ne.mpr c9
                  have H' := Aside0.mk H
                  clear H
                  have p5 : 0 ≤ (x5_1 : Int) := of_decide_eq_true (by first | (with_reducible assumption) | assumption)
                  have q5 : x5_1 < (16 : Int) := of_decide_eq_true (by first | (with_reducible assumption) | assumption)
                  have hx5 := bt_at (⟨#[48, 49, 50, 51, 52, 53, 54, 55, 56, 57, 97, 98, 99, 100, 101, 102]⟩ : ByteArray) x5_1
                  replace p5 := eq_true p5
                  replace q5 := eq_true q5
                  have p8 : 0 ≤ (x5_1 : Int) := of_decide_eq_true (by first | (with_reducible assumption) | assumption)
                  have q8 : x5_1 < (16 : Int) := of_decide_eq_true (by first | (with_reducible assumption) | assumption)
                  have hx8 := bt_at (⟨#[48, 49, 50, 51, 52, 53, 54, 55, 56, 57, 65, 66, 67, 68, 69, 70]⟩ : ByteArray) x5_1
                  replace p8 := eq_true p8
                  replace q8 := eq_true q8
                  go_wp2
                  go_roundg k1
                  case measure => have := HK1.out; omega
                  case rel => exact ⟨(wrap64 (x5_1 + 1)), (by first | rfl | (simp; done) | (simp [*]; done) | (simp; unfold wrap64; omega) | (congr 1; (try rw [Bool.eq_iff_iff]); simp [List.isEmpty_iff]; done)), H', ⟨by have := HK1.out; omega⟩, by repeat (first | exact Drawn0.refl _ | apply Drawn0.step)⟩
              · rw [if_neg c7] at H
                exact absurd H (by simp)
          · rw [if_neg c4] at H
            exact absurd H (by simp)
        · rw [if_neg c3] at H
          exact absurd H (by simp)
      · rw [if_neg c2] at H
        have c2b0 : decide (x5_1 < 16) = false := decide_eq_false c2
        clear c2
        obtain rfl := Option.some.inj H
        go_wp2
        go_ret
        exact ⟨by first | rfl | (simp; done) | (simp [*]; done) | (simp; unfold wrap64; omega) | (congr 1; (try rw [Bool.eq_iff_iff]); simp [List.isEmpty_iff]; done), by repeat (first | exact Drawn0.refl _ | apply Drawn0.step)⟩

end Go.Proofs.YthmcapdakplhdaaDoor.Pr
end

/-! ## text Prx26 -/
section
namespace Go.Proofs.YthmcapdakplhdaaDoor.Pr
open Go.RowKit Go.Proofs.YthmcapdakplhdaaDoorW.PrintWords Go.Proofs.YthmcapdakplhdaaDoorW.PrintLast Go.Proofs.YthmcapdakplhdaaDoorW.PrintMore
attribute [local go_sem] max2_int min2_int max_two min_two max_three min_three max_four min_four   -- for this text's walks alone
attribute [local go_sem high] Go.Proofs.YthmcapdakplhdaaDoor.isSome_setCell
set_option maxRecDepth 100000
set_option linter.unusedVariables false
set_option linter.unusedSimpArgs false

/-! ### refrainref5_character: function 103 -/
mutual
def refrainref5_character.j0 : Nat → ByteArray → Int → Int → Bool → Option (Int × Int × Int × Int)
  | 0, _, _, _, _ => none
  | k + 1, x0, x1, x8, x20 => if x20 = true then (some (0, 0, 0, 50)) else (if x8 = 92 then (if (wrap64 (x1 + 1)) ≥ (x0.size : Int) then (some (0, 0, (-1), 52)) else (if 0 ≤ (wrap64 (x1 + 1)) then (if (wrap64 (x1 + 1)) < (x0.size : Int) then (if (bt x0 (wrap64 (x1 + 1))) = 34 then (refrainref5_character.j1 k x0 x1 (bt x0 (wrap64 (x1 + 1))) ((bt x0 (wrap64 (x1 + 1))) == 34)) else (refrainref5_character.j1 k x0 x1 (bt x0 (wrap64 (x1 + 1))) ((bt x0 (wrap64 (x1 + 1))) == 92))) else (none)) else (none))) else (some (x8, 1, 0, 0)))
def refrainref5_character.j1 : Nat → ByteArray → Int → Int → Bool → Option (Int × Int × Int × Int)
  | 0, _, _, _, _ => none
  | k + 1, x0, x1, x32, x33 => if x33 = true then (if 0 ≤ (wrap64 (x1 + 1)) then (if (wrap64 (x1 + 1)) < (x0.size : Int) then (some (bt x0 (wrap64 (x1 + 1)), 2, 0, 0)) else (none)) else (none)) else (if x32 = 110 then (some (10, 2, 0, 0)) else (if x32 = 116 then (some (9, 2, 0, 0)) else (if x32 = 120 then (refrainref5_character.l0 k x0 x1 0 2) else (some (0, 0, 0, 51)))))
def refrainref5_character.l0 : Nat → ByteArray → Int → Int → Int → Option (Int × Int × Int × Int)
  | 0, _, _, _, _ => none
  | k + 1, x0, x1, x9, x10 => if x10 < 4 then (if (wrap64 (x1 + x10)) ≥ (x0.size : Int) then (some (0, 0, (-1), 52)) else (if 0 ≤ (wrap64 (x1 + x10)) then (if (wrap64 (x1 + x10)) < (x0.size : Int) then ((refrainref5_hex.f k (bt x0 (wrap64 (x1 + x10)))).bind fun t550 => (if t550 < 0 then (some (0, 0, 0, 51)) else (refrainref5_character.l0 k x0 x1 (wrap64 ((wrap64 (16 * x9)) + t550)) (wrap64 (x10 + 1))))) else (none)) else (none))) else (some ((x9) % 256, 4, 0, 0))
end
def refrainref5_character.f (k : Nat) (a0 : ByteArray) (a1 : Int) : Option (Int × Int × Int × Int) := if 0 ≤ a1 then (if a1 < (a0.size : Int) then (if (bt a0 a1) < 32 then (refrainref5_character.j0 k a0 a1 (bt a0 a1) true) else (refrainref5_character.j0 k a0 a1 (bt a0 a1) (decide ((bt a0 a1) > 126)))) else (none)) else (none)
set_option maxRecDepth 100000 in
theorem refrainref5_character.j0_zero : ∀ y0 y1 y2 y3, refrainref5_character.j0 0 y0 y1 y2 y3 = none := fun _ _ _ _ => rfl
set_option maxRecDepth 100000 in
theorem refrainref5_character.j1_zero : ∀ y0 y1 y2 y3, refrainref5_character.j1 0 y0 y1 y2 y3 = none := fun _ _ _ _ => rfl
set_option maxRecDepth 100000 in
theorem refrainref5_character.l0_zero : ∀ y0 y1 y2 y3, refrainref5_character.l0 0 y0 y1 y2 y3 = none := fun _ _ _ _ => rfl
set_option maxRecDepth 100000 in
theorem refrainref5_character.mono_l : ∀ k, (∀ y0 y1 y2 y3, LeO (refrainref5_character.j0 k y0 y1 y2 y3) (refrainref5_character.j0 (k + 1) y0 y1 y2 y3)) ∧ (∀ y0 y1 y2 y3, LeO (refrainref5_character.j1 k y0 y1 y2 y3) (refrainref5_character.j1 (k + 1) y0 y1 y2 y3)) ∧ (∀ y0 y1 y2 y3, LeO (refrainref5_character.l0 k y0 y1 y2 y3) (refrainref5_character.l0 (k + 1) y0 y1 y2 y3))
  | 0 => ⟨fun _ _ _ _ r h => by (unfold refrainref5_character.j0 at h; cases h), fun _ _ _ _ r h => by (unfold refrainref5_character.j1 at h; cases h), fun _ _ _ _ r h => by (unfold refrainref5_character.l0 at h; cases h)⟩
  | k + 1 => by
    obtain ⟨ih0, ih1, ih2⟩ := refrainref5_character.mono_l k
    refine ⟨?_, ?_, ?_⟩
    · intro y0 y1 y2 y3
      unfold refrainref5_character.j0
      repeat' first
      | (with_reducible exact ih0 _ _ _ _)
      | (with_reducible exact ih1 _ _ _ _)
      | (with_reducible exact ih2 _ _ _ _)
      | (with_reducible exact refrainref5_hex.mono _ _)
      | (with_reducible exact LeO.refl _)
      | (with_reducible exact LeO.none _)
      | (with_reducible refine LeO.ite ?_ ?_)
      | (with_reducible refine LeO.bind ?_ (fun _ => ?_))
      | exact ih0 _ _ _ _
      | exact ih1 _ _ _ _
      | exact ih2 _ _ _ _
      | exact refrainref5_hex.mono _ _
      | exact LeO.none _
      | refine LeO.ite ?_ ?_
      | refine LeO.bind ?_ (fun _ => ?_)
    · intro y0 y1 y2 y3
      unfold refrainref5_character.j1
      repeat' first
      | (with_reducible exact ih0 _ _ _ _)
      | (with_reducible exact ih1 _ _ _ _)
      | (with_reducible exact ih2 _ _ _ _)
      | (with_reducible exact refrainref5_hex.mono _ _)
      | (with_reducible exact LeO.refl _)
      | (with_reducible exact LeO.none _)
      | (with_reducible refine LeO.ite ?_ ?_)
      | (with_reducible refine LeO.bind ?_ (fun _ => ?_))
      | exact ih0 _ _ _ _
      | exact ih1 _ _ _ _
      | exact ih2 _ _ _ _
      | exact refrainref5_hex.mono _ _
      | exact LeO.none _
      | refine LeO.ite ?_ ?_
      | refine LeO.bind ?_ (fun _ => ?_)
    · intro y0 y1 y2 y3
      unfold refrainref5_character.l0
      repeat' first
      | (with_reducible exact ih0 _ _ _ _)
      | (with_reducible exact ih1 _ _ _ _)
      | (with_reducible exact ih2 _ _ _ _)
      | (with_reducible exact refrainref5_hex.mono _ _)
      | (with_reducible exact LeO.refl _)
      | (with_reducible exact LeO.none _)
      | (with_reducible refine LeO.ite ?_ ?_)
      | (with_reducible refine LeO.bind ?_ (fun _ => ?_))
      | exact ih0 _ _ _ _
      | exact ih1 _ _ _ _
      | exact ih2 _ _ _ _
      | exact refrainref5_hex.mono _ _
      | exact LeO.none _
      | refine LeO.ite ?_ ?_
      | refine LeO.bind ?_ (fun _ => ?_)
set_option maxRecDepth 100000 in
theorem refrainref5_character.mono : ∀ a0 a1 k, LeO (refrainref5_character.f k a0 a1) (refrainref5_character.f (k + 1) a0 a1) := by
  intro a0 a1 k
  obtain ⟨ih0, ih1, ih2⟩ := refrainref5_character.mono_l k
  unfold refrainref5_character.f
  repeat' first
      | (with_reducible exact ih0 _ _ _ _)
      | (with_reducible exact ih1 _ _ _ _)
      | (with_reducible exact ih2 _ _ _ _)
      | (with_reducible exact refrainref5_hex.mono _ _)
      | (with_reducible exact LeO.refl _)
      | (with_reducible exact LeO.none _)
      | (with_reducible refine LeO.ite ?_ ?_)
      | (with_reducible refine LeO.bind ?_ (fun _ => ?_))
      | exact ih0 _ _ _ _
      | exact ih1 _ _ _ _
      | exact ih2 _ _ _ _
      | exact refrainref5_hex.mono _ _
      | exact LeO.none _
      | refine LeO.ite ?_ ?_
      | refine LeO.bind ?_ (fun _ => ?_)
set_option maxHeartbeats 8000000 in
set_option maxRecDepth 100000 in
theorem refrainref5_character.calls (k : Nat) (a0 : ByteArray) (a1 : Int) (r1 : Int) (r2 : Int) (r3 : Int) (r4 : Int) (w : World) (h : refrainref5_character.f k a0 a1 = some (r1, r2, r3, r4)) :
    Calls Tryd.prog 103 #[.string a0, .int .i64 a1] w fun e w' => e = .returned (.tuple #[.int .u8 r1, .int .i64 r2, .int .i64 r3, .int .i64 r4]) ∧ Drawn0 w w' := by
  have H : (if 0 ≤ a1 then (if a1 < (a0.size : Int) then (if (bt a0 a1) < 32 then (refrainref5_character.j0 k a0 a1 (bt a0 a1) true) else (refrainref5_character.j0 k a0 a1 (bt a0 a1) (decide ((bt a0 a1) > 126)))) else (none)) else (none)) = some (r1, r2, r3, r4) := h
  clear h
  by_cases c3 : 0 ≤ a1
  · rw [if_pos c3] at H
    have c3b0 : decide (0 ≤ a1) = true := decide_eq_true c3
    clear c3
    by_cases c4 : a1 < (a0.size : Int)
    · rw [if_pos c4] at H
      have c4b0 : decide (a1 < (a0.size : Int)) = true := decide_eq_true c4
      clear c4
      have HC6 := Aside0.mk H
      clear H
      have p5 : 0 ≤ (a1 : Int) := of_decide_eq_true (by first | (with_reducible assumption) | assumption)
      have q5 : a1 < (a0.size : Int) := of_decide_eq_true (by first | (with_reducible assumption) | assumption)
      have hx5 := bt_at a0 a1
      replace p5 := eq_true p5
      replace q5 := eq_true q5
      go_enter Tryd.func103, Tryd.ntmps103
      go_upto_region 2 with (fail)
      go_cut [20] (fun v20 wc => ∃ (kq : Nat) (x20_5 : Bool), v20 = .bool x20_5 ∧ Aside0 (refrainref5_character.j0 kq a0 a1 (bt a0 a1) x20_5 = some (r1, r2, r3, r4)) ∧ Aside0 (kq ≤ k) ∧ Drawn0 w wc)
      case first =>
        have H := HC6.out
        clear HC6
        by_cases c7 : (bt a0 a1) < 32
        · rw [if_pos c7] at H
          have c7b0 : decide ((bt a0 a1) < 32) = true := decide_eq_true c7
          clear c7
          (first | rw [c7b0] | (simp only [i64_w, i32_w, IntKind.wrap_u8, IntKind.wrap_u16, IntKind.wrap_u32]; rw [c7b0]) | skip)
          have H' := Aside0.mk H
          clear H
          go_wp2
          go_meet
          case rel => exact ⟨_, (true), (by first | rfl | (simp; done) | (simp [*]; done) | (simp; unfold wrap64; omega) | (congr 1; (try rw [Bool.eq_iff_iff]); simp [List.isEmpty_iff]; done)), H', ⟨by first | omega | exact Nat.le_refl _⟩, by repeat (first | exact Drawn0.refl _ | apply Drawn0.step)⟩
        · rw [if_neg c7] at H
          have c7b0 : decide ((bt a0 a1) < 32) = false := decide_eq_false c7
          clear c7
          (first | rw [c7b0] | (simp only [i64_w, i32_w, IntKind.wrap_u8, IntKind.wrap_u16, IntKind.wrap_u32]; rw [c7b0]) | skip)
          have H' := Aside0.mk H
          clear H
          go_wp2
          go_meet
          case rel => exact ⟨_, (decide ((bt a0 a1) > 126)), (by first | rfl | (simp; done) | (simp [*]; done) | (simp; unfold wrap64; omega) | (congr 1; (try rw [Bool.eq_iff_iff]); simp [List.isEmpty_iff]; done)), H', ⟨by first | omega | exact Nat.le_refl _⟩, by repeat (first | exact Drawn0.refl _ | apply Drawn0.step)⟩
      case rest =>
        clear HC6
        try clear c1
        try clear p2
        try clear c3
        try clear c3b0
        try clear c4
        try clear c4b0
        try clear p5
        try clear q5
        try clear hx5
        try clear c7
        try clear c7b0
        try clear p5
        try clear q5
        obtain ⟨kq, x20_5, rfl, HA, HJ5, ⟨mc5, rfl⟩⟩ := hcut
        cases kq with
        | zero => (have HA2 := HA.out; clear HA; revert HA2; rw [refrainref5_character.j0_zero]; intro h_; cases h_)
        | succ kj5 =>
          have H := HA.out
          clear HA
          simp only [refrainref5_character.j0] at H
          by_cases c8 : x20_5 = true
          · subst c8
            have H1 : (some (0, 0, 0, 50)) = some (r1, r2, r3, r4) := by rw [if_pos rfl] at H; exact H
            clear H
            have H := H1
            clear H1
            simp only [Option.some.injEq, Prod.mk.injEq] at H
            obtain ⟨rfl, rfl, rfl, rfl⟩ := H
            go_wp2
            refine bodyPost_ret (results_list (rs := [.tmp 4, .tmp 5, .tmp 6, .tmp 7]) rfl (by simp) (.tmp (.tmp (.tmp (.tmp .nil))))) rfl ?_
            exact ⟨by first | rfl | (simp; done) | (simp [*]; done) | (simp; unfold wrap64; omega) | (congr 1; (try rw [Bool.eq_iff_iff]); simp [List.isEmpty_iff]; done), by repeat (first | exact Drawn0.refl _ | apply Drawn0.step)⟩
          · replace c8 := Bool.eq_false_iff.mpr c8
            subst c8
            have H1 : (if (bt a0 a1) = 92 then (if (wrap64 (a1 + 1)) ≥ (a0.size : Int) then (some (0, 0, (-1), 52)) else (if 0 ≤ (wrap64 (a1 + 1)) then (if (wrap64 (a1 + 1)) < (a0.size : Int) then (if (bt a0 (wrap64 (a1 + 1))) = 34 then (refrainref5_character.j1 kj5 a0 a1 (bt a0 (wrap64 (a1 + 1))) ((bt a0 (wrap64 (a1 + 1))) == 34)) else (refrainref5_character.j1 kj5 a0 a1 (bt a0 (wrap64 (a1 + 1))) ((bt a0 (wrap64 (a1 + 1))) == 92))) else (none)) else (none))) else (some ((bt a0 a1), 1, 0, 0))) = some (r1, r2, r3, r4) := by rw [if_neg (show ¬ (false = true) by decide)] at H; exact H
            clear H
            have H := H1
            clear H1
            by_cases c9 : (bt a0 a1) = 92
            · rw [if_pos c9] at H
              have c9b0 : ((bt a0 a1) == 92) = true := beq_iff_eq.mpr c9
              have c9b1 : ((bt a0 a1) != 92) = false := bne_eq_false_iff_eq.mpr c9
              clear c9
              by_cases c10 : (wrap64 (a1 + 1)) ≥ (a0.size : Int)
              · rw [if_pos c10] at H
                have c10b0 : decide ((a0.size : Int) ≤ (wrap64 (a1 + 1))) = true := decide_eq_true c10
                clear c10
                simp only [Option.some.injEq, Prod.mk.injEq] at H
                obtain ⟨rfl, rfl, rfl, rfl⟩ := H
                go_wp2
                refine bodyPost_ret (results_list (rs := [.tmp 4, .tmp 5, .tmp 6, .tmp 7]) rfl (by simp) (.tmp (.tmp (.tmp (.tmp .nil))))) rfl ?_
                exact ⟨by first | rfl | (simp; done) | (simp [*]; done) | (simp; unfold wrap64; omega) | (congr 1; (try rw [Bool.eq_iff_iff]); simp [List.isEmpty_iff]; done), by repeat (first | exact Drawn0.refl _ | apply Drawn0.step)⟩
              · rw [if_neg c10] at H
                have c10b0 : decide ((a0.size : Int) ≤ (wrap64 (a1 + 1))) = false := decide_eq_false c10
                clear c10
                obtain ⟨ji11, hji11⟩ : ∃ j_ : Int, (wrap64 (a1 + 1)) = j_ := ⟨_, rfl⟩
                replace H : (if 0 ≤ (ji11) then (if (ji11) < (a0.size : Int) then (if (bt a0 (ji11)) = 34 then (refrainref5_character.j1 kj5 a0 a1 (bt a0 (ji11)) ((bt a0 (ji11)) == 34)) else (refrainref5_character.j1 kj5 a0 a1 (bt a0 (ji11)) ((bt a0 (ji11)) == 92))) else (none)) else (none)) = some (r1, r2, r3, r4) := by first | (rw [hji11] at H; exact H) | (simp only [hji11] at H ⊢; exact H)
                (try rw [hji11] at c10b0)
                have hji11w : (IntKind.i64.wrap (a1 + 1)) = ji11 := (i64_w _).trans hji11
                by_cases c12 : 0 ≤ (ji11)
                · rw [if_pos c12] at H
                  have c12b0 : decide (0 ≤ (ji11)) = true := decide_eq_true c12
                  clear c12
                  by_cases c13 : (ji11) < (a0.size : Int)
                  · rw [if_pos c13] at H
                    have c13b0 : decide ((ji11) < (a0.size : Int)) = true := decide_eq_true c13
                    clear c13
                    have HC15 := Aside0.mk H
                    clear H
                    have p14 : 0 ≤ ((ji11) : Int) := of_decide_eq_true (by first | (with_reducible assumption) | assumption)
                    have q14 : (ji11) < (a0.size : Int) := of_decide_eq_true (by first | (with_reducible assumption) | assumption)
                    have hx14 := bt_at a0 (ji11)
                    replace p14 := eq_true p14
                    replace q14 := eq_true q14
                    go_upto_if 33 with (fail)
                    go_cut [33] (fun v33 wc => ∃ (kq : Nat) (x33_14 : Bool), v33 = .bool x33_14 ∧ Aside0 (refrainref5_character.j1 kq a0 a1 (bt a0 (ji11)) x33_14 = some (r1, r2, r3, r4)) ∧ Aside0 (kq ≤ kj5) ∧ Drawn0 w wc)
                    case first =>
                      have H := HC15.out
                      clear HC15
                      by_cases c16 : (bt a0 (ji11)) = 34
                      · rw [if_pos c16] at H
                        have c16b0 : ((bt a0 (ji11)) == 34) = true := beq_iff_eq.mpr c16
                        have c16b1 : ((bt a0 (ji11)) != 34) = false := bne_eq_false_iff_eq.mpr c16
                        clear c16
                        (first | rw [c16b0] | (simp only [i64_w, i32_w, IntKind.wrap_u8, IntKind.wrap_u16, IntKind.wrap_u32]; rw [c16b0]) | skip)
                        have H' := Aside0.mk H
                        clear H
                        go_wp2
                        go_meet
                        case rel => exact ⟨_, (((bt a0 (ji11)) == 34)), (by first | rfl | (simp; done) | (simp only [← hji11] <;> (first | rfl | (simp; done))) | (simp [*]; done)), H', ⟨by have := HJ5.out; first | omega | exact Nat.le_refl _⟩, by repeat (first | exact Drawn0.refl _ | apply Drawn0.step)⟩
                      · rw [if_neg c16] at H
                        have c16b0 : ((bt a0 (ji11)) == 34) = false := beq_eq_false_iff_ne.mpr c16
                        have c16b1 : ((bt a0 (ji11)) != 34) = true := bne_iff_ne.mpr c16
                        (first | rw [c16b0] | (simp only [i64_w, i32_w, IntKind.wrap_u8, IntKind.wrap_u16, IntKind.wrap_u32]; rw [c16b0]) | skip)
                        have H' := Aside0.mk H
                        clear H
                        go_wp2
                        go_meet
                        case rel => exact ⟨_, (((bt a0 (ji11)) == 92)), (by first | rfl | (simp; done) | (simp only [← hji11] <;> (first | rfl | (simp; done))) | (simp [*]; done)), H', ⟨by have := HJ5.out; first | omega | exact Nat.le_refl _⟩, by repeat (first | exact Drawn0.refl _ | apply Drawn0.step)⟩
                    case rest =>
                      clear HC15
                      try clear c1
                      try clear p1
                      try clear q1
                      try clear hx1
                      try clear p2
                      try clear c3
                      try clear c3b0
                      try clear c4
                      try clear c4b0
                      try clear c5
                      try clear p5
                      try clear q5
                      try clear hx5
                      try clear p6
                      try clear c7
                      try clear c7b0
                      try clear c8
                      try clear c9
                      try clear c9b0
                      try clear c9b1
                      try clear c10
                      try clear c10b0
                      try clear c12
                      try clear c12b0
                      try clear c13
                      try clear c13b0
                      try clear p14
                      try clear q14
                      try clear hx14
                      try clear c16
                      try clear c16b0
                      try clear c16b1
                      try clear p14
                      try clear p2
                      try clear p5
                      try clear q14
                      try clear q5
                      obtain ⟨kq, x33_14, rfl, HA, HJ14, ⟨mc14, rfl⟩⟩ := hcut
                      cases kq with
                      | zero => (have HA2 := HA.out; clear HA; revert HA2; rw [refrainref5_character.j1_zero]; intro h_; cases h_)
                      | succ kj14 =>
                        have H := HA.out
                        clear HA
                        simp only [refrainref5_character.j1] at H
                        by_cases c17 : x33_14 = true
                        · subst c17
                          have H1 : (if 0 ≤ (wrap64 (a1 + 1)) then (if (wrap64 (a1 + 1)) < (a0.size : Int) then (some (bt a0 (wrap64 (a1 + 1)), 2, 0, 0)) else (none)) else (none)) = some (r1, r2, r3, r4) := by rw [if_pos rfl] at H; exact H
                          clear H
                          have H := H1
                          clear H1
                          obtain ⟨ji18, hji18⟩ : ∃ j_ : Int, (wrap64 (a1 + 1)) = j_ := ⟨_, rfl⟩
                          obtain rfl : ji18 = ji11 := hji18.symm.trans hji11
                          replace H : (if 0 ≤ (ji18) then (if (ji18) < (a0.size : Int) then (some (bt a0 (ji18), 2, 0, 0)) else (none)) else (none)) = some (r1, r2, r3, r4) := by first | (rw [hji18] at H; exact H) | (simp only [hji18] at H ⊢; exact H)
                          (try rw [hji18] at c10b0)
                          have hji18w : (IntKind.i64.wrap (a1 + 1)) = ji18 := (i64_w _).trans hji18
                          by_cases c19 : 0 ≤ (ji18)
                          · rw [if_pos c19] at H
                            have c19b0 : decide (0 ≤ (ji18)) = true := decide_eq_true c19
                            clear c19
                            by_cases c20 : (ji18) < (a0.size : Int)
                            · rw [if_pos c20] at H
                              have c20b0 : decide ((ji18) < (a0.size : Int)) = true := decide_eq_true c20
                              clear c20
                              simp only [Option.some.injEq, Prod.mk.injEq] at H
                              obtain ⟨rfl, rfl, rfl, rfl⟩ := H
                              have p21 : 0 ≤ ((ji18) : Int) := of_decide_eq_true (by first | (with_reducible assumption) | assumption)
                              have q21 : (ji18) < (a0.size : Int) := of_decide_eq_true (by first | (with_reducible assumption) | assumption)
                              have hx21 := bt_at a0 (ji18)
                              replace p21 := eq_true p21
                              replace q21 := eq_true q21
                              go_wp2
                              refine bodyPost_ret (results_list (rs := [.tmp 4, .tmp 5, .tmp 6, .tmp 7]) rfl (by simp) (.tmp (.tmp (.tmp (.tmp .nil))))) rfl ?_
                              exact ⟨by first | rfl | (simp; done) | (simp only [← hji11, ← hji18] <;> (first | rfl | (simp; done))) | (simp [*]; done), by repeat (first | exact Drawn0.refl _ | apply Drawn0.step)⟩
                            · rw [if_neg c20] at H
                              exact absurd H (by simp)
                          · rw [if_neg c19] at H
                            exact absurd H (by simp)
                        · replace c17 := Bool.eq_false_iff.mpr c17
                          subst c17
                          have H1 : (if (bt a0 (ji11)) = 110 then (some (10, 2, 0, 0)) else (if (bt a0 (ji11)) = 116 then (some (9, 2, 0, 0)) else (if (bt a0 (ji11)) = 120 then (refrainref5_character.l0 kj14 a0 a1 0 2) else (some (0, 0, 0, 51))))) = some (r1, r2, r3, r4) := by rw [if_neg (show ¬ (false = true) by decide)] at H; exact H
                          clear H
                          have H := H1
                          clear H1
                          by_cases c22 : (bt a0 (ji11)) = 110
                          · rw [if_pos c22] at H
                            have c22b0 : ((bt a0 (ji11)) == 110) = true := beq_iff_eq.mpr c22
                            have c22b1 : ((bt a0 (ji11)) != 110) = false := bne_eq_false_iff_eq.mpr c22
                            clear c22
                            simp only [Option.some.injEq, Prod.mk.injEq] at H
                            obtain ⟨rfl, rfl, rfl, rfl⟩ := H
                            go_wp2
                            refine bodyPost_ret (results_list (rs := [.tmp 4, .tmp 5, .tmp 6, .tmp 7]) rfl (by simp) (.tmp (.tmp (.tmp (.tmp .nil))))) rfl ?_
                            exact ⟨by first | rfl | (simp; done) | (simp only [← hji11] <;> (first | rfl | (simp; done))) | (simp [*]; done), by repeat (first | exact Drawn0.refl _ | apply Drawn0.step)⟩
                          · rw [if_neg c22] at H
                            have c22b0 : ((bt a0 (ji11)) == 110) = false := beq_eq_false_iff_ne.mpr c22
                            have c22b1 : ((bt a0 (ji11)) != 110) = true := bne_iff_ne.mpr c22
                            by_cases c23 : (bt a0 (ji11)) = 116
                            · rw [if_pos c23] at H
                              have c23b0 : ((bt a0 (ji11)) == 116) = true := beq_iff_eq.mpr c23
                              have c23b1 : ((bt a0 (ji11)) != 116) = false := bne_eq_false_iff_eq.mpr c23
                              clear c23
                              simp only [Option.some.injEq, Prod.mk.injEq] at H
                              obtain ⟨rfl, rfl, rfl, rfl⟩ := H
                              go_wp2
                              refine bodyPost_ret (results_list (rs := [.tmp 4, .tmp 5, .tmp 6, .tmp 7]) rfl (by simp) (.tmp (.tmp (.tmp (.tmp .nil))))) rfl ?_
                              exact ⟨by first | rfl | (simp; done) | (simp only [← hji11] <;> (first | rfl | (simp; done))) | (simp [*]; done), by repeat (first | exact Drawn0.refl _ | apply Drawn0.step)⟩
                            · rw [if_neg c23] at H
                              have c23b0 : ((bt a0 (ji11)) == 116) = false := beq_eq_false_iff_ne.mpr c23
                              have c23b1 : ((bt a0 (ji11)) != 116) = true := bne_iff_ne.mpr c23
                              by_cases c24 : (bt a0 (ji11)) = 120
                              · rw [if_pos c24] at H
                                have c24b0 : ((bt a0 (ji11)) == 120) = true := beq_iff_eq.mpr c24
                                have c24b1 : ((bt a0 (ji11)) != 120) = false := bne_eq_false_iff_eq.mpr c24
                                clear c24
                                have H' := Aside0.mk H
                                clear H
                                go_wp2
                                go_loopg [9, 10] kj14 (fun kq v9 v10 w' => ∃ (x9_3 : Int) (x10_3 : Int), v9 = .int .i64 x9_3 ∧ v10 = .int .i64 x10_3 ∧ Aside0 (refrainref5_character.l0 kq a0 a1 x9_3 x10_3 = some (r1, r2, r3, r4)) ∧ Aside0 (kq ≤ kj14) ∧ Drawn0 w w')
                                case atStart => exact ⟨(0), (2), (by first | rfl | (simp; done) | (simp [*]; done) | (simp; unfold wrap64; omega) | (congr 1; (try rw [Bool.eq_iff_iff]); simp [List.isEmpty_iff]; done)), (by first | rfl | (simp; done) | (simp [*]; done) | (simp; unfold wrap64; omega) | (congr 1; (try rw [Bool.eq_iff_iff]); simp [List.isEmpty_iff]; done)), H', ⟨Nat.le_refl _⟩, by repeat (first | exact Drawn0.refl _ | apply Drawn0.step)⟩
                                case round =>
                                  clear H'
                                  try clear c1
                                  try clear p1
                                  try clear q1
                                  try clear hx1
                                  try clear c2
                                  try clear p2
                                  try clear q2
                                  try clear hx2
                                  try clear c3
                                  try clear c3b0
                                  try clear c4
                                  try clear c4b0
                                  try clear c5
                                  try clear p5
                                  try clear q5
                                  try clear hx5
                                  try clear p6
                                  try clear c7
                                  try clear c7b0
                                  try clear c8
                                  try clear c9
                                  try clear c9b0
                                  try clear c9b1
                                  try clear c10
                                  try clear c10b0
                                  try clear c12
                                  try clear c12b0
                                  try clear c13
                                  try clear c13b0
                                  try clear c14
                                  try clear p14
                                  try clear q14
                                  try clear hx14
                                  try clear c16
                                  try clear c16b0
                                  try clear c16b1
                                  try clear c17
                                  try clear c19
                                  try clear c19b0
                                  try clear c20
                                  try clear c20b0
                                  try clear p21
                                  try clear q21
                                  try clear hx21
                                  try clear c22
                                  try clear c22b0
                                  try clear c22b1
                                  try clear c23
                                  try clear c23b0
                                  try clear c23b1
                                  try clear c24
                                  try clear c24b0
                                  try clear c24b1
                                  try clear p1
                                  try clear p14
                                  try clear p2
                                  try clear p21
                                  try clear p5
                                  try clear p6
                                  try clear q1
                                  try clear q14
                                  try clear q21
                                  try clear q5
                                  obtain ⟨x9_3, x10_3, rfl, rfl, HA, HK3, ⟨m3, rfl⟩⟩ := hrel
                                  cases gk with
                                  | zero => (have HA2 := HA.out; clear HA; revert HA2; rw [refrainref5_character.l0_zero]; intro h_; cases h_)
                                  | succ k3 =>
                                    have H := HA.out
                                    clear HA
                                    simp only [refrainref5_character.l0] at H
                                    by_cases c25 : x10_3 < 4
                                    · rw [if_pos c25] at H
                                      have c25b0 : decide (x10_3 < 4) = true := decide_eq_true c25
                                      clear c25
                                      by_cases c26 : (wrap64 (a1 + x10_3)) ≥ (a0.size : Int)
                                      · rw [if_pos c26] at H
                                        have c26b0 : decide ((a0.size : Int) ≤ (wrap64 (a1 + x10_3))) = true := decide_eq_true c26
                                        clear c26
                                        simp only [Option.some.injEq, Prod.mk.injEq] at H
                                        obtain ⟨rfl, rfl, rfl, rfl⟩ := H
                                        go_wp2
                                        refine bodyPost_ret (results_list (rs := [.tmp 4, .tmp 5, .tmp 6, .tmp 7]) rfl (by simp) (.tmp (.tmp (.tmp (.tmp .nil))))) rfl ?_
                                        exact ⟨by first | rfl | (simp; done) | (simp only [← hji11] <;> (first | rfl | (simp; done))) | (simp [*]; done), by repeat (first | exact Drawn0.refl _ | apply Drawn0.step)⟩
                                      · rw [if_neg c26] at H
                                        have c26b0 : decide ((a0.size : Int) ≤ (wrap64 (a1 + x10_3))) = false := decide_eq_false c26
                                        clear c26
                                        obtain ⟨ji27, hji27⟩ : ∃ j_ : Int, (wrap64 (a1 + x10_3)) = j_ := ⟨_, rfl⟩
                                        replace H : (if 0 ≤ (ji27) then (if (ji27) < (a0.size : Int) then ((refrainref5_hex.f k3 (bt a0 (ji27))).bind fun t550 => (if t550 < 0 then (some (0, 0, 0, 51)) else (refrainref5_character.l0 k3 a0 a1 (wrap64 ((wrap64 (16 * x9_3)) + t550)) (wrap64 (x10_3 + 1))))) else (none)) else (none)) = some (r1, r2, r3, r4) := by first | (rw [hji27] at H; exact H) | (simp only [hji27] at H ⊢; exact H)
                                        (try rw [hji27] at c26b0)
                                        have hji27w : (IntKind.i64.wrap (a1 + x10_3)) = ji27 := (i64_w _).trans hji27
                                        by_cases c28 : 0 ≤ (ji27)
                                        · rw [if_pos c28] at H
                                          have c28b0 : decide (0 ≤ (ji27)) = true := decide_eq_true c28
                                          clear c28
                                          by_cases c29 : (ji27) < (a0.size : Int)
                                          · rw [if_pos c29] at H
                                            have c29b0 : decide ((ji27) < (a0.size : Int)) = true := decide_eq_true c29
                                            clear c29
                                            replace H := Option.bind_eq_some_iff.mp H
                                            obtain ⟨t550, A310, H⟩ := H
                                            replace H : (if t550 < 0 then (some (0, 0, 0, 51)) else (refrainref5_character.l0 k3 a0 a1 (wrap64 ((wrap64 (16 * x9_3)) + t550)) (wrap64 (x10_3 + 1)))) = some (r1, r2, r3, r4) := H
                                            have A31 := Aside0.mk A310
                                            clear A310
                                            by_cases c32 : t550 < 0
                                            · rw [if_pos c32] at H
                                              have c32b0 : decide (t550 < 0) = true := decide_eq_true c32
                                              clear c32
                                              simp only [Option.some.injEq, Prod.mk.injEq] at H
                                              obtain ⟨rfl, rfl, rfl, rfl⟩ := H
                                              have p30 : 0 ≤ ((ji27) : Int) := of_decide_eq_true (by first | (with_reducible assumption) | assumption)
                                              have q30 : (ji27) < (a0.size : Int) := of_decide_eq_true (by first | (with_reducible assumption) | assumption)
                                              have hx30 := bt_at a0 (ji27)
                                              replace p30 := eq_true p30
                                              replace q30 := eq_true q30
                                              go_wp2_with (first | ((with_reducible refine gate_callee (f := 116) rfl ?_); refine goesL_ (some 61) rfl rfl Tryd.func116 (by kernel_rfl) rfl #[.int .u8 (bt a0 (ji27))] rfl (by (try simp only [List.map_toArray, List.map_cons, List.map_nil]); first | done | (simp only [hji27]; rfl) | rfl | (simp only [List.length_drop, List.length_take]; rfl)) ?_; (with_reducible refine (refrainref5_hex.calls k3 (bt a0 (ji27)) t550 _ A31.out).mono ?_); rintro e w' ⟨rfl, ⟨nd, rfl⟩⟩; refine ⟨_, rfl, ?_⟩))
                                              refine bodyPost_ret (results_list (rs := [.tmp 4, .tmp 5, .tmp 6, .tmp 7]) rfl (by simp) (.tmp (.tmp (.tmp (.tmp .nil))))) rfl ?_
                                              exact ⟨by first | rfl | (simp; done) | (simp only [← hji11, ← hji27] <;> (first | rfl | (simp; done))) | (simp [*]; done), by repeat (first | exact Drawn0.refl _ | apply Drawn0.step)⟩
                                            · rw [if_neg c32] at H
                                              have c32b0 : decide (t550 < 0) = false := decide_eq_false c32
                                              clear c32
                                              have H' := Aside0.mk H
                                              clear H
                                              have p30 : 0 ≤ ((ji27) : Int) := of_decide_eq_true (by first | (with_reducible assumption) | assumption)
                                              have q30 : (ji27) < (a0.size : Int) := of_decide_eq_true (by first | (with_reducible assumption) | assumption)
                                              have hx30 := bt_at a0 (ji27)
                                              replace p30 := eq_true p30
                                              replace q30 := eq_true q30
                                              go_wp2_with (first | ((with_reducible refine gate_callee (f := 116) rfl ?_); refine goesL_ (some 61) rfl rfl Tryd.func116 (by kernel_rfl) rfl #[.int .u8 (bt a0 (ji27))] rfl (by (try simp only [List.map_toArray, List.map_cons, List.map_nil]); first | done | (simp only [hji27]; rfl) | rfl | (simp only [List.length_drop, List.length_take]; rfl)) ?_; (with_reducible refine (refrainref5_hex.calls k3 (bt a0 (ji27)) t550 _ A31.out).mono ?_); rintro e w' ⟨rfl, ⟨nd, rfl⟩⟩; refine ⟨_, rfl, ?_⟩))
                                              go_roundg k3
                                              case measure => have := HJ5.out; have := HJ14.out; have := HK3.out; omega
                                              case rel => exact ⟨(wrap64 ((wrap64 (16 * x9_3)) + t550)), (wrap64 (x10_3 + 1)), (by first | rfl | (simp; done) | (simp [*]; done) | (simp; unfold wrap64; omega) | (congr 1; (try rw [Bool.eq_iff_iff]); simp [List.isEmpty_iff]; done)), (by first | rfl | (simp; done) | (simp [*]; done) | (simp; unfold wrap64; omega) | (congr 1; (try rw [Bool.eq_iff_iff]); simp [List.isEmpty_iff]; done)), H', ⟨by have := HJ5.out; have := HJ14.out; have := HK3.out; omega⟩, by repeat (first | exact Drawn0.refl _ | apply Drawn0.step)⟩
                                          · rw [if_neg c29] at H
                                            exact absurd H (by simp)
                                        · rw [if_neg c28] at H
                                          exact absurd H (by simp)
                                    · rw [if_neg c25] at H
                                      have c25b0 : decide (x10_3 < 4) = false := decide_eq_false c25
                                      clear c25
                                      simp only [Option.some.injEq, Prod.mk.injEq] at H
                                      obtain ⟨rfl, rfl, rfl, rfl⟩ := H
                                      go_wp2
                                      refine bodyPost_ret (results_list (rs := [.tmp 4, .tmp 5, .tmp 6, .tmp 7]) rfl (by simp) (.tmp (.tmp (.tmp (.tmp .nil))))) rfl ?_
                                      exact ⟨by first | rfl | (simp; done) | (simp only [← hji11] <;> (first | rfl | (simp; done))) | (simp [*]; done), by repeat (first | exact Drawn0.refl _ | apply Drawn0.step)⟩
                              · rw [if_neg c24] at H
                                have c24b0 : ((bt a0 (ji11)) == 120) = false := beq_eq_false_iff_ne.mpr c24
                                have c24b1 : ((bt a0 (ji11)) != 120) = true := bne_iff_ne.mpr c24
                                simp only [Option.some.injEq, Prod.mk.injEq] at H
                                obtain ⟨rfl, rfl, rfl, rfl⟩ := H
                                go_wp2
                                refine bodyPost_ret (results_list (rs := [.tmp 4, .tmp 5, .tmp 6, .tmp 7]) rfl (by simp) (.tmp (.tmp (.tmp (.tmp .nil))))) rfl ?_
                                exact ⟨by first | rfl | (simp; done) | (simp only [← hji11] <;> (first | rfl | (simp; done))) | (simp [*]; done), by repeat (first | exact Drawn0.refl _ | apply Drawn0.step)⟩
                  · rw [if_neg c13] at H
                    exact absurd H (by simp)
                · rw [if_neg c12] at H
                  exact absurd H (by simp)
            · rw [if_neg c9] at H
              have c9b0 : ((bt a0 a1) == 92) = false := beq_eq_false_iff_ne.mpr c9
              have c9b1 : ((bt a0 a1) != 92) = true := bne_iff_ne.mpr c9
              simp only [Option.some.injEq, Prod.mk.injEq] at H
              obtain ⟨rfl, rfl, rfl, rfl⟩ := H
              go_wp2
              refine bodyPost_ret (results_list (rs := [.tmp 4, .tmp 5, .tmp 6, .tmp 7]) rfl (by simp) (.tmp (.tmp (.tmp (.tmp .nil))))) rfl ?_
              exact ⟨by first | rfl | (simp; done) | (simp [*]; done) | (simp; unfold wrap64; omega) | (congr 1; (try rw [Bool.eq_iff_iff]); simp [List.isEmpty_iff]; done), by repeat (first | exact Drawn0.refl _ | apply Drawn0.step)⟩
    · rw [if_neg c4] at H
      exact absurd H (by simp)
  · rw [if_neg c3] at H
    exact absurd H (by simp)

end Go.Proofs.YthmcapdakplhdaaDoor.Pr
end

/-! ## text Prx27 -/
section
namespace Go.Proofs.YthmcapdakplhdaaDoor.Pr
open Go.RowKit Go.Proofs.YthmcapdakplhdaaDoorW.PrintWords Go.Proofs.YthmcapdakplhdaaDoorW.PrintLast Go.Proofs.YthmcapdakplhdaaDoorW.PrintMore
attribute [local go_sem] max2_int min2_int max_two min_two max_three min_three max_four min_four   -- for this text's walks alone
attribute [local go_sem high] Go.Proofs.YthmcapdakplhdaaDoor.isSome_setCell
set_option maxRecDepth 100000
set_option linter.unusedVariables false
set_option linter.unusedSimpArgs false

/-! ### refrainref5_str: function 86 -/
mutual
def refrainref5_str.l0 : Nat → ByteArray → Int → List Int → Int → Option (Int × ByteArray × Int × Int × Int × Int)
  | 0, _, _, _, _ => none
  | k + 1, x0, x1, x5, x6 => if x6 < (x0.size : Int) then (if 0 ≤ x6 then (if (bt x0 x6) = 34 then (some (3, strOfNums x5, x1, wrap64 (x6 + 1), 0, 0)) else ((refrainref5_character.f k x0 x6).bind fun bt552 => (if bt552.2.2.2 = 0 then (refrainref5_str.j1 k x0 x1 x5 x6 bt552.1 bt552.2.1 bt552.2.2.2 false) else (refrainref5_str.j1 k x0 x1 x5 x6 bt552.1 bt552.2.1 bt552.2.2.2 (decide (bt552.2.2.1 < 0)))))) else (none)) else (some (0, (⟨#[]⟩ : ByteArray), 0, 0, x1, 52))
def refrainref5_str.j1 : Nat → ByteArray → Int → List Int → Int → Int → Int → Int → Bool → Option (Int × ByteArray × Int × Int × Int × Int)
  | 0, _, _, _, _, _, _, _, _ => none
  | k + 1, x0, x1, x5, x6, x7, x8, x10, x41 => if x41 = true then (some (0, (⟨#[]⟩ : ByteArray), 0, 0, x1, x10)) else (if x10 = 0 then (if x5.length < 140737488355328 then ((some (x5 ++ [x7] : List Int)).bind fun y556 => (if (y556.length : Int) > 256 then (some (0, (⟨#[]⟩ : ByteArray), 0, 0, x1, 51)) else (refrainref5_str.l0 k x0 x1 y556 (wrap64 (x6 + x8))))) else (none)) else (some (0, (⟨#[]⟩ : ByteArray), 0, 0, x6, x10)))
end
def refrainref5_str.f (k : Nat) (a0 : ByteArray) (a1 : Int) : Option (Int × ByteArray × Int × Int × Int × Int) := refrainref5_str.l0 k a0 a1 ([] : List Int) (wrap64 (a1 + 1))
set_option maxRecDepth 100000 in
theorem refrainref5_str.l0_zero : ∀ y0 y1 y2 y3, refrainref5_str.l0 0 y0 y1 y2 y3 = none := fun _ _ _ _ => rfl
set_option maxRecDepth 100000 in
theorem refrainref5_str.j1_zero : ∀ y0 y1 y2 y3 y4 y5 y6 y7, refrainref5_str.j1 0 y0 y1 y2 y3 y4 y5 y6 y7 = none := fun _ _ _ _ _ _ _ _ => rfl
set_option maxRecDepth 100000 in
theorem refrainref5_str.mono_l : ∀ k, (∀ y0 y1 y2 y3, LeO (refrainref5_str.l0 k y0 y1 y2 y3) (refrainref5_str.l0 (k + 1) y0 y1 y2 y3)) ∧ (∀ y0 y1 y2 y3 y4 y5 y6 y7, LeO (refrainref5_str.j1 k y0 y1 y2 y3 y4 y5 y6 y7) (refrainref5_str.j1 (k + 1) y0 y1 y2 y3 y4 y5 y6 y7))
  | 0 => ⟨fun _ _ _ _ r h => by (unfold refrainref5_str.l0 at h; cases h), fun _ _ _ _ _ _ _ _ r h => by (unfold refrainref5_str.j1 at h; cases h)⟩
  | k + 1 => by
    obtain ⟨ih0, ih1⟩ := refrainref5_str.mono_l k
    refine ⟨?_, ?_⟩
    · intro y0 y1 y2 y3
      unfold refrainref5_str.l0
      repeat' first
      | (with_reducible exact ih0 _ _ _ _)
      | (with_reducible exact ih1 _ _ _ _ _ _ _ _)
      | (with_reducible exact refrainref5_character.mono _ _ _)
      | (with_reducible exact LeO.refl _)
      | (with_reducible exact LeO.none _)
      | (with_reducible refine LeO.ite ?_ ?_)
      | (with_reducible refine LeO.bind ?_ (fun _ => ?_))
      | exact ih0 _ _ _ _
      | exact ih1 _ _ _ _ _ _ _ _
      | exact refrainref5_character.mono _ _ _
      | exact LeO.none _
      | refine LeO.ite ?_ ?_
      | refine LeO.bind ?_ (fun _ => ?_)
    · intro y0 y1 y2 y3 y4 y5 y6 y7
      unfold refrainref5_str.j1
      repeat' first
      | (with_reducible exact ih0 _ _ _ _)
      | (with_reducible exact ih1 _ _ _ _ _ _ _ _)
      | (with_reducible exact refrainref5_character.mono _ _ _)
      | (with_reducible exact LeO.refl _)
      | (with_reducible exact LeO.none _)
      | (with_reducible refine LeO.ite ?_ ?_)
      | (with_reducible refine LeO.bind ?_ (fun _ => ?_))
      | exact ih0 _ _ _ _
      | exact ih1 _ _ _ _ _ _ _ _
      | exact refrainref5_character.mono _ _ _
      | exact LeO.none _
      | refine LeO.ite ?_ ?_
      | refine LeO.bind ?_ (fun _ => ?_)
set_option maxRecDepth 100000 in
theorem refrainref5_str.mono : ∀ a0 a1 k, LeO (refrainref5_str.f k a0 a1) (refrainref5_str.f (k + 1) a0 a1) := by
  intro a0 a1 k
  obtain ⟨ih0, ih1⟩ := refrainref5_str.mono_l k
  unfold refrainref5_str.f
  repeat' first
      | (with_reducible exact ih0 _ _ _ _)
      | (with_reducible exact ih1 _ _ _ _ _ _ _ _)
      | (with_reducible exact refrainref5_character.mono _ _ _)
      | (with_reducible exact LeO.refl _)
      | (with_reducible exact LeO.none _)
      | (with_reducible refine LeO.ite ?_ ?_)
      | (with_reducible refine LeO.bind ?_ (fun _ => ?_))
      | exact ih0 _ _ _ _
      | exact ih1 _ _ _ _ _ _ _ _
      | exact refrainref5_character.mono _ _ _
      | exact LeO.none _
      | refine LeO.ite ?_ ?_
      | refine LeO.bind ?_ (fun _ => ?_)
set_option maxHeartbeats 8000000 in
set_option maxRecDepth 100000 in
theorem refrainref5_str.calls (k : Nat) (a0 : ByteArray) (a1 : Int) (r1 : Int) (r2 : ByteArray) (r3 : Int) (r4 : Int) (r5 : Int) (r6 : Int) (w : World) (h : refrainref5_str.f k a0 a1 = some (r1, r2, r3, r4, r5, r6)) :
    Calls Tryd.prog 86 #[.string a0, .int .i64 a1] w fun e w' => e = .returned (.agg #[.int .i64 r1, .string r2, .int .i64 r3, .int .i64 r4, .int .i64 r5, .int .i64 r6]) ∧ Below w.heap.size w w' := by
  have hu113 := Tryd.underlying113
  have hu44 := Tryd.underlying44
  have HB := Aside0.mk (Below.refl w.heap.size w)
  have H : (refrainref5_str.l0 k a0 a1 ([] : List Int) (wrap64 (a1 + 1))) = some (r1, r2, r3, r4, r5, r6) := h
  clear h
  have H' := Aside0.mk H
  clear H
  go_enter Tryd.func86, Tryd.ntmps86
  go_wp2_with (first | ((with_reducible refine gate_dst (N := 4) rfl ?_); refine box_event ?hg (N := 4) ?hd (cs := #[.int .i64 0, .string (⟨#[]⟩ : ByteArray), .int .i64 0, .int .i64 0, .int .i64 0, .int .i64 0]) (t := 113) ?hr ?_; (case hd => rfl); (case hg => rfl); (case hr => first | (go_simp; done) | (go_simp; rfl)); intro gb551 hg w3 hbox hb; have BK551 := Aside0.mk hbox; have GW551 := geA hg HB; have GE551 := geA hg HB; replace HB := bsA HB hb; clear hb hbox hg))
  go_loopg [5, 6] k (fun kq v5 v6 w' => ∃ (x5_1 : List Int) (x6_1 : Int) (x552000_1 : Int) (x552001_1 : ByteArray) (x552002_1 : Int) (x552003_1 : Int) (x552004_1 : Int) (x552005_1 : Int), v6 = .int .i64 x6_1 ∧ Aside0 (refrainref5_str.l0 kq a0 a1 x5_1 x6_1 = some (r1, r2, r3, r4, r5, r6)) ∧ Aside0 (kq ≤ k) ∧ Aside0 (Kd.R (Kd.int .u8) 5 w' w.heap.size (fun _ => True) v5 x5_1) ∧ Aside0 (w'.heap[gb551]? = some (.cells #[.int .i64 x552000_1, .string x552001_1, .int .i64 x552002_1, .int .i64 x552003_1, .int .i64 x552004_1, .int .i64 x552005_1] 113 (0, 0))) ∧ Aside0 (Below w.heap.size w w'))
  case atStart => exact ⟨(([] : List Int)), (wrap64 (a1 + 1)), (0), ((⟨#[]⟩ : ByteArray)), (0), (0), (0), (0), (by first | rfl | (simp; done) | (simp [*]; done) | (simp; unfold wrap64; omega) | (congr 1; (try rw [Bool.eq_iff_iff]); simp [List.isEmpty_iff]; done)), H', ⟨Nat.le_refl _⟩, ⟨by first | exact Kd.R_nil _ _ _ _ _ | exact Kd.N_nil _ _ _ _ _ | exact Kd.V_nil _ _ _ _ _ | exact Kd.Q_nil _ _ _ _ _ | exact Kd.S_nil _ _ _ _ _⟩, ⟨bkT BK551.out⟩, ⟨hbT HB.out⟩⟩
  case round =>
    clear H'
    try clear p2
    obtain ⟨x5_1, x6_1, x552000_1, x552001_1, x552002_1, x552003_1, x552004_1, x552005_1, rfl, HA, HK1, HO_5, BK551, HB⟩ := hrel
    cases gk with
    | zero => (have HA2 := HA.out; clear HA; revert HA2; rw [refrainref5_str.l0_zero]; intro h_; cases h_)
    | succ k1 =>
      have H := HA.out
      clear HA
      simp only [refrainref5_str.l0] at H
      by_cases c4 : x6_1 < (a0.size : Int)
      · rw [if_pos c4] at H
        have c4b0 : decide (x6_1 < (a0.size : Int)) = true := decide_eq_true c4
        clear c4
        by_cases c5 : 0 ≤ x6_1
        · rw [if_pos c5] at H
          have c5b0 : decide (0 ≤ x6_1) = true := decide_eq_true c5
          clear c5
          by_cases c7 : (bt a0 x6_1) = 34
          · rw [if_pos c7] at H
            have c7b0 : ((bt a0 x6_1) == 34) = true := beq_iff_eq.mpr c7
            have c7b1 : ((bt a0 x6_1) != 34) = false := bne_eq_false_iff_eq.mpr c7
            clear c7
            simp only [Option.some.injEq, Prod.mk.injEq] at H
            obtain ⟨rfl, rfl, rfl, rfl, rfl, rfl⟩ := H
            have p6 : 0 ≤ (x6_1 : Int) := of_decide_eq_true (by first | (with_reducible assumption) | assumption)
            have q6 : x6_1 < (a0.size : Int) := of_decide_eq_true (by first | (with_reducible assumption) | assumption)
            have hx6 := bt_at a0 x6_1
            replace p6 := eq_true p6
            replace q6 := eq_true q6
            have hcv8 := own_string (P := Tryd.prog) Tryd.underlying39 Tryd.underlying5 Tryd.underlying9 (Kd.own_of_R HO_5.out)
            have hcz9_0 : wr.cell? ⟨gb551, 0, none⟩ = some (.int .i64 x552000_1) := (blk_cell BK551.out 0).trans rfl; have hcz9_1 : wr.cell? ⟨gb551, 1, none⟩ = some (.string x552001_1) := (blk_cell BK551.out 1).trans rfl; have hcz9_2 : wr.cell? ⟨gb551, 2, none⟩ = some (.int .i64 x552002_1) := (blk_cell BK551.out 2).trans rfl; have hcz9_3 : wr.cell? ⟨gb551, 3, none⟩ = some (.int .i64 x552003_1) := (blk_cell BK551.out 3).trans rfl; have hcz9_4 : wr.cell? ⟨gb551, 4, none⟩ = some (.int .i64 x552004_1) := (blk_cell BK551.out 4).trans rfl; have hcz9_5 : wr.cell? ⟨gb551, 5, none⟩ = some (.int .i64 x552005_1) := (blk_cell BK551.out 5).trans rfl; have hfz9_0 := blk_frozen BK551.out 0; have hfz9_1 := blk_frozen BK551.out 1; have hfz9_2 := blk_frozen BK551.out 2; have hfz9_3 := blk_frozen BK551.out 3; have hfz9_4 := blk_frozen BK551.out 4; have hfz9_5 := blk_frozen BK551.out 5
            go_wp2
            refine bodyPost_ret (results_cell_row rfl _ _ gb551 113 #[.int .i64 3, .string (strOfNums x5_1), .int .i64 a1, .int .i64 (wrap64 (x6_1 + 1)), .int .i64 0, .int .i64 0] (0, 0) _ rfl (by (with_reducible repeat (first | refine blk_drewN ?_ _ | refine blk_drew ?_ | refine blk_alloc ?_ _)); refine blk_put (cs := #[.int .i64 3, .string (strOfNums x5_1), .int .i64 a1, .int .i64 (wrap64 (x6_1 + 1)), .int .i64 0, .int .i64 x552005_1]) ?_ 5 _ rfl; (with_reducible repeat (first | refine blk_drewN ?_ _ | refine blk_drew ?_ | refine blk_alloc ?_ _)); refine blk_put (cs := #[.int .i64 3, .string (strOfNums x5_1), .int .i64 a1, .int .i64 (wrap64 (x6_1 + 1)), .int .i64 x552004_1, .int .i64 x552005_1]) ?_ 4 _ rfl; (with_reducible repeat (first | refine blk_drewN ?_ _ | refine blk_drew ?_ | refine blk_alloc ?_ _)); refine blk_put (cs := #[.int .i64 3, .string (strOfNums x5_1), .int .i64 a1, .int .i64 x552003_1, .int .i64 x552004_1, .int .i64 x552005_1]) ?_ 3 _ rfl; (with_reducible repeat (first | refine blk_drewN ?_ _ | refine blk_drew ?_ | refine blk_alloc ?_ _)); refine blk_put (cs := #[.int .i64 3, .string (strOfNums x5_1), .int .i64 x552002_1, .int .i64 x552003_1, .int .i64 x552004_1, .int .i64 x552005_1]) ?_ 2 _ rfl; (with_reducible repeat (first | refine blk_drewN ?_ _ | refine blk_drew ?_ | refine blk_alloc ?_ _)); refine blk_put (cs := #[.int .i64 3, .string x552001_1, .int .i64 x552002_1, .int .i64 x552003_1, .int .i64 x552004_1, .int .i64 x552005_1]) ?_ 1 _ rfl; (with_reducible repeat (first | refine blk_drewN ?_ _ | refine blk_drew ?_ | refine blk_alloc ?_ _)); refine blk_put (cs := #[.int .i64 x552000_1, .string x552001_1, .int .i64 x552002_1, .int .i64 x552003_1, .int .i64 x552004_1, .int .i64 x552005_1]) ?_ 0 _ rfl; (with_reducible repeat (first | refine blk_drewN ?_ _ | refine blk_drew ?_ | refine blk_alloc ?_ _)); exact BK551.out) Tryd.underlying113 rfl (by kernel_rfl)) rfl ?_
            exact ⟨by first | rfl | (simp [errW_none, errW_some] <;> rfl) | (simp [*, errW_none, errW_some] <;> rfl), hbT HB.out⟩
          · rw [if_neg c7] at H
            have c7b0 : ((bt a0 x6_1) == 34) = false := beq_eq_false_iff_ne.mpr c7
            have c7b1 : ((bt a0 x6_1) != 34) = true := bne_iff_ne.mpr c7
            replace H := Option.bind_eq_some_iff.mp H
            obtain ⟨⟨t552, t553, t554, t555⟩, A100, H⟩ := H
            replace H : (if t555 = 0 then (refrainref5_str.j1 k1 a0 a1 x5_1 x6_1 t552 t553 t555 false) else (refrainref5_str.j1 k1 a0 a1 x5_1 x6_1 t552 t553 t555 (decide (t554 < 0)))) = some (r1, r2, r3, r4, r5, r6) := H
            have A10 := Aside0.mk A100
            clear A100
            have HC11 := Aside0.mk H
            clear H
            have p6 : 0 ≤ (x6_1 : Int) := of_decide_eq_true (by first | (with_reducible assumption) | assumption)
            have q6 : x6_1 < (a0.size : Int) := of_decide_eq_true (by first | (with_reducible assumption) | assumption)
            have hx6 := bt_at a0 x6_1
            replace p6 := eq_true p6
            replace q6 := eq_true q6
            go_upto_region 7 with (first | ((with_reducible refine gate_callee (f := 103) rfl ?_); refine goesT (some 31) Tryd.func103 #[.string a0, .int .i64 x6_1] ?_; (with_reducible refine (refrainref5_character.calls k1 a0 x6_1 t552 t553 t554 t555 _ A10.out).mono ?_); rintro e w' ⟨rfl, ⟨nd, rfl⟩⟩; refine ⟨_, rfl, ?_⟩))
            (try simp only [Act.put, List.setIfInBounds_toArray, List.set_cons_zero, List.set_cons_succ])
            go_cut [41] (fun v41 wc => ∃ (kq : Nat) (x41_10 : Bool), v41 = .bool x41_10 ∧ Aside0 (refrainref5_str.j1 kq a0 a1 x5_1 x6_1 t552 t553 t555 x41_10 = some (r1, r2, r3, r4, r5, r6)) ∧ Aside0 (kq ≤ k1) ∧ Aside0 (Kd.R (Kd.int .u8) 5 wc w.heap.size (fun _ => True) u5 x5_1) ∧ Aside0 (wc.heap[gb551]? = some (.cells #[.int .i64 x552000_1, .string x552001_1, .int .i64 x552002_1, .int .i64 x552003_1, .int .i64 x552004_1, .int .i64 x552005_1] 113 (0, 0))) ∧ Aside0 (Below w.heap.size w wc))
            case first =>
              have H := HC11.out
              clear HC11
              by_cases c12 : t555 = 0
              · rw [if_pos c12] at H
                have c12b0 : (t555 == 0) = true := beq_iff_eq.mpr c12
                have c12b1 : (t555 != 0) = false := bne_eq_false_iff_eq.mpr c12
                clear c12
                (first | rw [c12b0] | (simp only [i64_w, i32_w, IntKind.wrap_u8, IntKind.wrap_u16, IntKind.wrap_u32]; rw [c12b0]) | skip)
                have H' := Aside0.mk H
                clear H
                go_wp2
                go_meet
                case rel => exact ⟨_, (false), (by first | rfl | (simp; done) | (simp [*]; done) | (simp; unfold wrap64; omega) | (congr 1; (try rw [Bool.eq_iff_iff]); simp [List.isEmpty_iff]; done)), H', ⟨by have := HK1.out; first | omega | exact Nat.le_refl _⟩, ⟨by (with_reducible repeat (first | apply Kd.R_alloc | apply Kd.R_drewN | apply Kd.R_drew)); exact HO_5.out⟩, ⟨bkT BK551.out⟩, ⟨hbT HB.out⟩⟩
              · rw [if_neg c12] at H
                have c12b0 : (t555 == 0) = false := beq_eq_false_iff_ne.mpr c12
                have c12b1 : (t555 != 0) = true := bne_iff_ne.mpr c12
                (first | rw [c12b0] | (simp only [i64_w, i32_w, IntKind.wrap_u8, IntKind.wrap_u16, IntKind.wrap_u32]; rw [c12b0]) | skip)
                have H' := Aside0.mk H
                clear H
                go_wp2
                go_meet
                case rel => exact ⟨_, (decide (t554 < 0)), (by first | rfl | (simp; done) | (simp [*]; done) | (simp; unfold wrap64; omega) | (congr 1; (try rw [Bool.eq_iff_iff]); simp [List.isEmpty_iff]; done)), H', ⟨by have := HK1.out; first | omega | exact Nat.le_refl _⟩, ⟨by (with_reducible repeat (first | apply Kd.R_alloc | apply Kd.R_drewN | apply Kd.R_drew)); exact HO_5.out⟩, ⟨bkT BK551.out⟩, ⟨hbT HB.out⟩⟩
            case rest =>
              clear HC11
              try clear c1
              try clear p2
              try clear c4
              try clear c4b0
              try clear c5
              try clear c5b0
              try clear p6
              try clear q6
              try clear hx6
              try clear c7
              try clear c7b0
              try clear c7b1
              try clear c8
              try clear hcv8
              try clear c10
              try clear c12
              try clear c12b0
              try clear c12b1
              try clear hcz9_0 hcz9_1 hcz9_2 hcz9_3 hcz9_4 hcz9_5
              try clear hfz9_0 hfz9_1 hfz9_2 hfz9_3 hfz9_4 hfz9_5
              try clear p2
              try clear p6
              try clear q6
              obtain ⟨kq, x41_10, rfl, HA, HJ10, HO_5, BK551, HB⟩ := hcut
              cases kq with
              | zero => (have HA2 := HA.out; clear HA; revert HA2; rw [refrainref5_str.j1_zero]; intro h_; cases h_)
              | succ kj10 =>
                have H := HA.out
                clear HA
                simp only [refrainref5_str.j1] at H
                by_cases c13 : x41_10 = true
                · subst c13
                  have H1 : (some (0, (⟨#[]⟩ : ByteArray), 0, 0, a1, t555)) = some (r1, r2, r3, r4, r5, r6) := by rw [if_pos rfl] at H; exact H
                  clear H
                  have H := H1
                  clear H1
                  simp only [Option.some.injEq, Prod.mk.injEq] at H
                  obtain ⟨rfl, rfl, rfl, rfl, rfl, rfl⟩ := H
                  have hcz14_0 : wc.cell? ⟨gb551, 0, none⟩ = some (.int .i64 x552000_1) := (blk_cell BK551.out 0).trans rfl; have hcz14_1 : wc.cell? ⟨gb551, 1, none⟩ = some (.string x552001_1) := (blk_cell BK551.out 1).trans rfl; have hcz14_2 : wc.cell? ⟨gb551, 2, none⟩ = some (.int .i64 x552002_1) := (blk_cell BK551.out 2).trans rfl; have hcz14_3 : wc.cell? ⟨gb551, 3, none⟩ = some (.int .i64 x552003_1) := (blk_cell BK551.out 3).trans rfl; have hcz14_4 : wc.cell? ⟨gb551, 4, none⟩ = some (.int .i64 x552004_1) := (blk_cell BK551.out 4).trans rfl; have hcz14_5 : wc.cell? ⟨gb551, 5, none⟩ = some (.int .i64 x552005_1) := (blk_cell BK551.out 5).trans rfl; have hfz14_0 := blk_frozen BK551.out 0; have hfz14_1 := blk_frozen BK551.out 1; have hfz14_2 := blk_frozen BK551.out 2; have hfz14_3 := blk_frozen BK551.out 3; have hfz14_4 := blk_frozen BK551.out 4; have hfz14_5 := blk_frozen BK551.out 5
                  go_wp2
                  refine bodyPost_ret (results_cell_row rfl _ _ gb551 113 #[.int .i64 0, .string (⟨#[]⟩ : ByteArray), .int .i64 0, .int .i64 0, .int .i64 a1, .int .i64 t555] (0, 0) _ rfl (by (with_reducible repeat (first | refine blk_drewN ?_ _ | refine blk_drew ?_ | refine blk_alloc ?_ _)); refine blk_put (cs := #[.int .i64 0, .string (⟨#[]⟩ : ByteArray), .int .i64 0, .int .i64 0, .int .i64 a1, .int .i64 x552005_1]) ?_ 5 _ rfl; (with_reducible repeat (first | refine blk_drewN ?_ _ | refine blk_drew ?_ | refine blk_alloc ?_ _)); refine blk_put (cs := #[.int .i64 0, .string (⟨#[]⟩ : ByteArray), .int .i64 0, .int .i64 0, .int .i64 x552004_1, .int .i64 x552005_1]) ?_ 4 _ rfl; (with_reducible repeat (first | refine blk_drewN ?_ _ | refine blk_drew ?_ | refine blk_alloc ?_ _)); refine blk_put (cs := #[.int .i64 0, .string (⟨#[]⟩ : ByteArray), .int .i64 0, .int .i64 x552003_1, .int .i64 x552004_1, .int .i64 x552005_1]) ?_ 3 _ rfl; (with_reducible repeat (first | refine blk_drewN ?_ _ | refine blk_drew ?_ | refine blk_alloc ?_ _)); refine blk_put (cs := #[.int .i64 0, .string (⟨#[]⟩ : ByteArray), .int .i64 x552002_1, .int .i64 x552003_1, .int .i64 x552004_1, .int .i64 x552005_1]) ?_ 2 _ rfl; (with_reducible repeat (first | refine blk_drewN ?_ _ | refine blk_drew ?_ | refine blk_alloc ?_ _)); refine blk_put (cs := #[.int .i64 0, .string x552001_1, .int .i64 x552002_1, .int .i64 x552003_1, .int .i64 x552004_1, .int .i64 x552005_1]) ?_ 1 _ rfl; (with_reducible repeat (first | refine blk_drewN ?_ _ | refine blk_drew ?_ | refine blk_alloc ?_ _)); refine blk_put (cs := #[.int .i64 x552000_1, .string x552001_1, .int .i64 x552002_1, .int .i64 x552003_1, .int .i64 x552004_1, .int .i64 x552005_1]) ?_ 0 _ rfl; (with_reducible repeat (first | refine blk_drewN ?_ _ | refine blk_drew ?_ | refine blk_alloc ?_ _)); exact BK551.out) Tryd.underlying113 rfl (by kernel_rfl)) rfl ?_
                  exact ⟨by first | rfl | (simp [errW_none, errW_some] <;> rfl) | (simp [*, errW_none, errW_some] <;> rfl), hbT HB.out⟩
                · replace c13 := Bool.eq_false_iff.mpr c13
                  subst c13
                  have H1 : (if t555 = 0 then (if x5_1.length < 140737488355328 then ((some (x5_1 ++ [t552] : List Int)).bind fun y556 => (if (y556.length : Int) > 256 then (some (0, (⟨#[]⟩ : ByteArray), 0, 0, a1, 51)) else (refrainref5_str.l0 kj10 a0 a1 y556 (wrap64 (x6_1 + t553))))) else (none)) else (some (0, (⟨#[]⟩ : ByteArray), 0, 0, x6_1, t555))) = some (r1, r2, r3, r4, r5, r6) := by rw [if_neg (show ¬ (false = true) by decide)] at H; exact H
                  clear H
                  have H := H1
                  clear H1
                  by_cases c15 : t555 = 0
                  · rw [if_pos c15] at H
                    have c15b0 : (t555 == 0) = true := beq_iff_eq.mpr c15
                    have c15b1 : (t555 != 0) = false := bne_eq_false_iff_eq.mpr c15
                    clear c15
                    by_cases c16 : x5_1.length < 140737488355328
                    · rw [if_pos c16] at H
                      have LMc16 := Aside0.mk c16
                      clear c16
                      obtain ⟨y556, hy556⟩ : ∃ y_ : List Int, y_ = (x5_1 ++ [t552]) := ⟨_, rfl⟩
                      replace H : (if (y556.length : Int) > 256 then (some (0, (⟨#[]⟩ : ByteArray), 0, 0, a1, 51)) else (refrainref5_str.l0 kj10 a0 a1 y556 (wrap64 (x6_1 + t553)))) = some (r1, r2, r3, r4, r5, r6) := by first | (rw [hy556]; with_reducible exact H) | (have H2_ := (Option.bind_some _ _).symm.trans H; rw [hy556]; with_reducible exact H2_) | (have H2_ := (Option.bind_some _ _).symm.trans H; with_reducible exact H2_) | with_reducible exact H | (rw [hy556]; exact H) | exact H
                      have Ny556 := Aside0.mk hy556
                      clear hy556
                      by_cases c17 : (y556.length : Int) > 256
                      · rw [if_pos c17] at H
                        have c17b0 : decide (256 < (y556.length : Int)) = true := decide_eq_true c17
                        have c17b1 : decide (256 < y556.length) = true := decide_eq_true (by omega)
                        clear c17
                        simp only [Option.some.injEq, Prod.mk.injEq] at H
                        obtain ⟨rfl, rfl, rfl, rfl, rfl, rfl⟩ := H
                        go_wp2_with (first | ((with_reducible refine gate_builtin (b := .append) (xs := #[.tmp 50, .tmp 52]) rfl ?_); at_builtin; refine Kd.R_append (Kd.int .u8) (w0 := w) w.heap.size rfl (.tmp 50) (.tmp 52) 39 5 (.int .u8 0) 1 rfl Tryd.underlying39 info5 rfl (by decide) (by omega) u5 x5_1 t552 [.int .u8 t552] (fun _ => True) (fun _ => False) rfl rfl ?aP (fun _ hk => hk.elim) ?aF ?aO ?aB ?aS ?aL ?_; (case aP => exact rfl); (case aB => exact (hbT HB.out)); (case aF => exact (fun _ _ => trivial)); (case aO => exact (by (with_reducible repeat (first | apply Kd.R_alloc | apply Kd.R_drewN | apply Kd.R_drew)); exact HO_5.out)); (case aS => exact (below_size (hbT HB.out))); (case aL => have := LMc16.out; omega); intro v557 w18 ho hb hg hat; rw [← Ny556.out] at ho; have n0_ := Aside0.mk (blk_grown (g := gb551) (o := .cells #[.int .i64 x552000_1, .string x552001_1, .int .i64 x552002_1, .int .i64 x552003_1, .int .i64 x552004_1, .int .i64 x552005_1] 113 (0, 0)) (bkT BK551.out) hg (Kd.R_ne HO_5.out BK551.out (by decide))); have n1_ := Aside0.mk (hb); have n2_ := Aside0.mk (ho); clear BK551; clear HB; clear HO_5; have BK551 := n0_; have HB := n1_; have HO558 := n2_; clear n0_ n1_ n2_; clear ho hb hg hat; obtain ⟨Ao19, co19, eo19⟩ := Kd.R_slice HO558.out; subst eo19; have hcz20_0 : w18.cell? ⟨gb551, 0, none⟩ = some (.int .i64 x552000_1) := (blk_cell BK551.out 0).trans rfl; have hcz20_1 : w18.cell? ⟨gb551, 1, none⟩ = some (.string x552001_1) := (blk_cell BK551.out 1).trans rfl; have hcz20_2 : w18.cell? ⟨gb551, 2, none⟩ = some (.int .i64 x552002_1) := (blk_cell BK551.out 2).trans rfl; have hcz20_3 : w18.cell? ⟨gb551, 3, none⟩ = some (.int .i64 x552003_1) := (blk_cell BK551.out 3).trans rfl; have hcz20_4 : w18.cell? ⟨gb551, 4, none⟩ = some (.int .i64 x552004_1) := (blk_cell BK551.out 4).trans rfl; have hcz20_5 : w18.cell? ⟨gb551, 5, none⟩ = some (.int .i64 x552005_1) := (blk_cell BK551.out 5).trans rfl; have hfz20_0 := blk_frozen BK551.out 0; have hfz20_1 := blk_frozen BK551.out 1; have hfz20_2 := blk_frozen BK551.out 2; have hfz20_3 := blk_frozen BK551.out 3; have hfz20_4 := blk_frozen BK551.out 4; have hfz20_5 := blk_frozen BK551.out 5))
                        refine bodyPost_ret (results_cell_row rfl _ _ gb551 113 #[.int .i64 0, .string (⟨#[]⟩ : ByteArray), .int .i64 0, .int .i64 0, .int .i64 a1, .int .i64 51] (0, 0) _ rfl (by (with_reducible repeat (first | refine blk_drewN ?_ _ | refine blk_drew ?_ | refine blk_alloc ?_ _)); refine blk_put (cs := #[.int .i64 0, .string (⟨#[]⟩ : ByteArray), .int .i64 0, .int .i64 0, .int .i64 a1, .int .i64 x552005_1]) ?_ 5 _ rfl; (with_reducible repeat (first | refine blk_drewN ?_ _ | refine blk_drew ?_ | refine blk_alloc ?_ _)); refine blk_put (cs := #[.int .i64 0, .string (⟨#[]⟩ : ByteArray), .int .i64 0, .int .i64 0, .int .i64 x552004_1, .int .i64 x552005_1]) ?_ 4 _ rfl; (with_reducible repeat (first | refine blk_drewN ?_ _ | refine blk_drew ?_ | refine blk_alloc ?_ _)); refine blk_put (cs := #[.int .i64 0, .string (⟨#[]⟩ : ByteArray), .int .i64 0, .int .i64 x552003_1, .int .i64 x552004_1, .int .i64 x552005_1]) ?_ 3 _ rfl; (with_reducible repeat (first | refine blk_drewN ?_ _ | refine blk_drew ?_ | refine blk_alloc ?_ _)); refine blk_put (cs := #[.int .i64 0, .string (⟨#[]⟩ : ByteArray), .int .i64 x552002_1, .int .i64 x552003_1, .int .i64 x552004_1, .int .i64 x552005_1]) ?_ 2 _ rfl; (with_reducible repeat (first | refine blk_drewN ?_ _ | refine blk_drew ?_ | refine blk_alloc ?_ _)); refine blk_put (cs := #[.int .i64 0, .string x552001_1, .int .i64 x552002_1, .int .i64 x552003_1, .int .i64 x552004_1, .int .i64 x552005_1]) ?_ 1 _ rfl; (with_reducible repeat (first | refine blk_drewN ?_ _ | refine blk_drew ?_ | refine blk_alloc ?_ _)); refine blk_put (cs := #[.int .i64 x552000_1, .string x552001_1, .int .i64 x552002_1, .int .i64 x552003_1, .int .i64 x552004_1, .int .i64 x552005_1]) ?_ 0 _ rfl; (with_reducible repeat (first | refine blk_drewN ?_ _ | refine blk_drew ?_ | refine blk_alloc ?_ _)); exact BK551.out) Tryd.underlying113 rfl (by kernel_rfl)) rfl ?_
                        exact ⟨by first | rfl | (simp [errW_none, errW_some] <;> rfl) | (simp [*, errW_none, errW_some] <;> rfl), hbT HB.out⟩
                      · rw [if_neg c17] at H
                        have c17b0 : decide (256 < (y556.length : Int)) = false := decide_eq_false c17
                        have c17b1 : decide (256 < y556.length) = false := decide_eq_false (by omega)
                        clear c17
                        have H' := Aside0.mk H
                        clear H
                        go_wp2_with (first | ((with_reducible refine gate_builtin (b := .append) (xs := #[.tmp 50, .tmp 52]) rfl ?_); at_builtin; refine Kd.R_append (Kd.int .u8) (w0 := w) w.heap.size rfl (.tmp 50) (.tmp 52) 39 5 (.int .u8 0) 1 rfl Tryd.underlying39 info5 rfl (by decide) (by omega) u5 x5_1 t552 [.int .u8 t552] (fun _ => True) (fun _ => False) rfl rfl ?aP (fun _ hk => hk.elim) ?aF ?aO ?aB ?aS ?aL ?_; (case aP => exact rfl); (case aB => exact (hbT HB.out)); (case aF => exact (fun _ _ => trivial)); (case aO => exact (by (with_reducible repeat (first | apply Kd.R_alloc | apply Kd.R_drewN | apply Kd.R_drew)); exact HO_5.out)); (case aS => exact (below_size (hbT HB.out))); (case aL => have := LMc16.out; omega); intro v557 w21 ho hb hg hat; rw [← Ny556.out] at ho; have n0_ := Aside0.mk (blk_grown (g := gb551) (o := .cells #[.int .i64 x552000_1, .string x552001_1, .int .i64 x552002_1, .int .i64 x552003_1, .int .i64 x552004_1, .int .i64 x552005_1] 113 (0, 0)) (bkT BK551.out) hg (Kd.R_ne HO_5.out BK551.out (by decide))); have n1_ := Aside0.mk (hb); have n2_ := Aside0.mk (ho); clear BK551; clear HB; clear HO_5; have BK551 := n0_; have HB := n1_; have HO558 := n2_; clear n0_ n1_ n2_; clear ho hb hg hat; obtain ⟨Ao22, co22, eo22⟩ := Kd.R_slice HO558.out; subst eo22))
                        go_roundg kj10
                        case measure => have := HK1.out; have := HJ10.out; omega
                        case rel => exact ⟨(y556), (wrap64 (x6_1 + t553)), (x552000_1), (x552001_1), (x552002_1), (x552003_1), (x552004_1), (x552005_1), (by first | rfl | (simp; done) | (simp [*]; done) | (simp; unfold wrap64; omega) | (congr 1; (try rw [Bool.eq_iff_iff]); simp [List.isEmpty_iff]; done)), H', ⟨by have := HK1.out; have := HJ10.out; omega⟩, ⟨by (with_reducible repeat (first | apply Kd.R_alloc | apply Kd.R_drewN | apply Kd.R_drew)); exact HO558.out⟩, ⟨bkT BK551.out⟩, ⟨hbT HB.out⟩⟩
                    · rw [if_neg c16] at H
                      exact absurd H (by simp)
                  · rw [if_neg c15] at H
                    have c15b0 : (t555 == 0) = false := beq_eq_false_iff_ne.mpr c15
                    have c15b1 : (t555 != 0) = true := bne_iff_ne.mpr c15
                    simp only [Option.some.injEq, Prod.mk.injEq] at H
                    obtain ⟨rfl, rfl, rfl, rfl, rfl, rfl⟩ := H
                    have hcz23_0 : wc.cell? ⟨gb551, 0, none⟩ = some (.int .i64 x552000_1) := (blk_cell BK551.out 0).trans rfl; have hcz23_1 : wc.cell? ⟨gb551, 1, none⟩ = some (.string x552001_1) := (blk_cell BK551.out 1).trans rfl; have hcz23_2 : wc.cell? ⟨gb551, 2, none⟩ = some (.int .i64 x552002_1) := (blk_cell BK551.out 2).trans rfl; have hcz23_3 : wc.cell? ⟨gb551, 3, none⟩ = some (.int .i64 x552003_1) := (blk_cell BK551.out 3).trans rfl; have hcz23_4 : wc.cell? ⟨gb551, 4, none⟩ = some (.int .i64 x552004_1) := (blk_cell BK551.out 4).trans rfl; have hcz23_5 : wc.cell? ⟨gb551, 5, none⟩ = some (.int .i64 x552005_1) := (blk_cell BK551.out 5).trans rfl; have hfz23_0 := blk_frozen BK551.out 0; have hfz23_1 := blk_frozen BK551.out 1; have hfz23_2 := blk_frozen BK551.out 2; have hfz23_3 := blk_frozen BK551.out 3; have hfz23_4 := blk_frozen BK551.out 4; have hfz23_5 := blk_frozen BK551.out 5
                    go_wp2
                    refine bodyPost_ret (results_cell_row rfl _ _ gb551 113 #[.int .i64 0, .string (⟨#[]⟩ : ByteArray), .int .i64 0, .int .i64 0, .int .i64 x6_1, .int .i64 t555] (0, 0) _ rfl (by (with_reducible repeat (first | refine blk_drewN ?_ _ | refine blk_drew ?_ | refine blk_alloc ?_ _)); refine blk_put (cs := #[.int .i64 0, .string (⟨#[]⟩ : ByteArray), .int .i64 0, .int .i64 0, .int .i64 x6_1, .int .i64 x552005_1]) ?_ 5 _ rfl; (with_reducible repeat (first | refine blk_drewN ?_ _ | refine blk_drew ?_ | refine blk_alloc ?_ _)); refine blk_put (cs := #[.int .i64 0, .string (⟨#[]⟩ : ByteArray), .int .i64 0, .int .i64 0, .int .i64 x552004_1, .int .i64 x552005_1]) ?_ 4 _ rfl; (with_reducible repeat (first | refine blk_drewN ?_ _ | refine blk_drew ?_ | refine blk_alloc ?_ _)); refine blk_put (cs := #[.int .i64 0, .string (⟨#[]⟩ : ByteArray), .int .i64 0, .int .i64 x552003_1, .int .i64 x552004_1, .int .i64 x552005_1]) ?_ 3 _ rfl; (with_reducible repeat (first | refine blk_drewN ?_ _ | refine blk_drew ?_ | refine blk_alloc ?_ _)); refine blk_put (cs := #[.int .i64 0, .string (⟨#[]⟩ : ByteArray), .int .i64 x552002_1, .int .i64 x552003_1, .int .i64 x552004_1, .int .i64 x552005_1]) ?_ 2 _ rfl; (with_reducible repeat (first | refine blk_drewN ?_ _ | refine blk_drew ?_ | refine blk_alloc ?_ _)); refine blk_put (cs := #[.int .i64 0, .string x552001_1, .int .i64 x552002_1, .int .i64 x552003_1, .int .i64 x552004_1, .int .i64 x552005_1]) ?_ 1 _ rfl; (with_reducible repeat (first | refine blk_drewN ?_ _ | refine blk_drew ?_ | refine blk_alloc ?_ _)); refine blk_put (cs := #[.int .i64 x552000_1, .string x552001_1, .int .i64 x552002_1, .int .i64 x552003_1, .int .i64 x552004_1, .int .i64 x552005_1]) ?_ 0 _ rfl; (with_reducible repeat (first | refine blk_drewN ?_ _ | refine blk_drew ?_ | refine blk_alloc ?_ _)); exact BK551.out) Tryd.underlying113 rfl (by kernel_rfl)) rfl ?_
                    exact ⟨by first | rfl | (simp [errW_none, errW_some] <;> rfl) | (simp [*, errW_none, errW_some] <;> rfl), hbT HB.out⟩
        · rw [if_neg c5] at H
          exact absurd H (by simp)
      · rw [if_neg c4] at H
        have c4b0 : decide (x6_1 < (a0.size : Int)) = false := decide_eq_false c4
        clear c4
        simp only [Option.some.injEq, Prod.mk.injEq] at H
        obtain ⟨rfl, rfl, rfl, rfl, rfl, rfl⟩ := H
        have hcz24_0 : wr.cell? ⟨gb551, 0, none⟩ = some (.int .i64 x552000_1) := (blk_cell BK551.out 0).trans rfl; have hcz24_1 : wr.cell? ⟨gb551, 1, none⟩ = some (.string x552001_1) := (blk_cell BK551.out 1).trans rfl; have hcz24_2 : wr.cell? ⟨gb551, 2, none⟩ = some (.int .i64 x552002_1) := (blk_cell BK551.out 2).trans rfl; have hcz24_3 : wr.cell? ⟨gb551, 3, none⟩ = some (.int .i64 x552003_1) := (blk_cell BK551.out 3).trans rfl; have hcz24_4 : wr.cell? ⟨gb551, 4, none⟩ = some (.int .i64 x552004_1) := (blk_cell BK551.out 4).trans rfl; have hcz24_5 : wr.cell? ⟨gb551, 5, none⟩ = some (.int .i64 x552005_1) := (blk_cell BK551.out 5).trans rfl; have hfz24_0 := blk_frozen BK551.out 0; have hfz24_1 := blk_frozen BK551.out 1; have hfz24_2 := blk_frozen BK551.out 2; have hfz24_3 := blk_frozen BK551.out 3; have hfz24_4 := blk_frozen BK551.out 4; have hfz24_5 := blk_frozen BK551.out 5
        go_wp2
        refine bodyPost_ret (results_cell_row rfl _ _ gb551 113 #[.int .i64 0, .string (⟨#[]⟩ : ByteArray), .int .i64 0, .int .i64 0, .int .i64 a1, .int .i64 52] (0, 0) _ rfl (by (with_reducible repeat (first | refine blk_drewN ?_ _ | refine blk_drew ?_ | refine blk_alloc ?_ _)); refine blk_put (cs := #[.int .i64 0, .string (⟨#[]⟩ : ByteArray), .int .i64 0, .int .i64 0, .int .i64 a1, .int .i64 x552005_1]) ?_ 5 _ rfl; (with_reducible repeat (first | refine blk_drewN ?_ _ | refine blk_drew ?_ | refine blk_alloc ?_ _)); refine blk_put (cs := #[.int .i64 0, .string (⟨#[]⟩ : ByteArray), .int .i64 0, .int .i64 0, .int .i64 x552004_1, .int .i64 x552005_1]) ?_ 4 _ rfl; (with_reducible repeat (first | refine blk_drewN ?_ _ | refine blk_drew ?_ | refine blk_alloc ?_ _)); refine blk_put (cs := #[.int .i64 0, .string (⟨#[]⟩ : ByteArray), .int .i64 0, .int .i64 x552003_1, .int .i64 x552004_1, .int .i64 x552005_1]) ?_ 3 _ rfl; (with_reducible repeat (first | refine blk_drewN ?_ _ | refine blk_drew ?_ | refine blk_alloc ?_ _)); refine blk_put (cs := #[.int .i64 0, .string (⟨#[]⟩ : ByteArray), .int .i64 x552002_1, .int .i64 x552003_1, .int .i64 x552004_1, .int .i64 x552005_1]) ?_ 2 _ rfl; (with_reducible repeat (first | refine blk_drewN ?_ _ | refine blk_drew ?_ | refine blk_alloc ?_ _)); refine blk_put (cs := #[.int .i64 0, .string x552001_1, .int .i64 x552002_1, .int .i64 x552003_1, .int .i64 x552004_1, .int .i64 x552005_1]) ?_ 1 _ rfl; (with_reducible repeat (first | refine blk_drewN ?_ _ | refine blk_drew ?_ | refine blk_alloc ?_ _)); refine blk_put (cs := #[.int .i64 x552000_1, .string x552001_1, .int .i64 x552002_1, .int .i64 x552003_1, .int .i64 x552004_1, .int .i64 x552005_1]) ?_ 0 _ rfl; (with_reducible repeat (first | refine blk_drewN ?_ _ | refine blk_drew ?_ | refine blk_alloc ?_ _)); exact BK551.out) Tryd.underlying113 rfl (by kernel_rfl)) rfl ?_
        exact ⟨by first | rfl | (simp [errW_none, errW_some] <;> rfl) | (simp [*, errW_none, errW_some] <;> rfl), hbT HB.out⟩

/-! ### refrainref5_signs: function 87 -/
def refrainref5_signs.f  : Option (List ByteArray) := some (([(⟨#[46, 46]⟩ : ByteArray), (⟨#[33, 61]⟩ : ByteArray), (⟨#[60, 61]⟩ : ByteArray), (⟨#[62, 61]⟩ : ByteArray), (⟨#[40]⟩ : ByteArray), (⟨#[41]⟩ : ByteArray), (⟨#[91]⟩ : ByteArray), (⟨#[93]⟩ : ByteArray), (⟨#[123]⟩ : ByteArray), (⟨#[125]⟩ : ByteArray), (⟨#[44]⟩ : ByteArray), (⟨#[46]⟩ : ByteArray), (⟨#[43]⟩ : ByteArray), (⟨#[45]⟩ : ByteArray), (⟨#[42]⟩ : ByteArray), (⟨#[61]⟩ : ByteArray), (⟨#[60]⟩ : ByteArray), (⟨#[62]⟩ : ByteArray), (⟨#[33]⟩ : ByteArray)] : List ByteArray))
set_option maxHeartbeats 8000000 in
set_option maxRecDepth 100000 in
theorem refrainref5_signs.calls  (r : List ByteArray) (w : World) (h : refrainref5_signs.f  = some r) :
    Calls Tryd.prog 87 #[] w fun e w' => ∃ v0_ : Value, e = .returned (v0_) ∧ Kd.R Kd.string 9 w' w.heap.size (fun _ => True) v0_ r ∧ Below w.heap.size w w' := by
  have HB := Aside0.mk (Below.refl w.heap.size w)
  have H : (some (([(⟨#[46, 46]⟩ : ByteArray), (⟨#[33, 61]⟩ : ByteArray), (⟨#[60, 61]⟩ : ByteArray), (⟨#[62, 61]⟩ : ByteArray), (⟨#[40]⟩ : ByteArray), (⟨#[41]⟩ : ByteArray), (⟨#[91]⟩ : ByteArray), (⟨#[93]⟩ : ByteArray), (⟨#[123]⟩ : ByteArray), (⟨#[125]⟩ : ByteArray), (⟨#[44]⟩ : ByteArray), (⟨#[46]⟩ : ByteArray), (⟨#[43]⟩ : ByteArray), (⟨#[45]⟩ : ByteArray), (⟨#[42]⟩ : ByteArray), (⟨#[61]⟩ : ByteArray), (⟨#[60]⟩ : ByteArray), (⟨#[62]⟩ : ByteArray), (⟨#[33]⟩ : ByteArray)] : List ByteArray))) = some r := h
  clear h
  obtain ⟨y559, hy559⟩ : ∃ y_ : List ByteArray, y_ = (([(⟨#[46, 46]⟩ : ByteArray), (⟨#[33, 61]⟩ : ByteArray), (⟨#[60, 61]⟩ : ByteArray), (⟨#[62, 61]⟩ : ByteArray), (⟨#[40]⟩ : ByteArray), (⟨#[41]⟩ : ByteArray), (⟨#[91]⟩ : ByteArray), (⟨#[93]⟩ : ByteArray), (⟨#[123]⟩ : ByteArray), (⟨#[125]⟩ : ByteArray), (⟨#[44]⟩ : ByteArray), (⟨#[46]⟩ : ByteArray), (⟨#[43]⟩ : ByteArray), (⟨#[45]⟩ : ByteArray), (⟨#[42]⟩ : ByteArray), (⟨#[61]⟩ : ByteArray), (⟨#[60]⟩ : ByteArray), (⟨#[62]⟩ : ByteArray), (⟨#[33]⟩ : ByteArray)] : List ByteArray)) := ⟨_, rfl⟩
  replace H : (some y559) = some r := by first | (rw [hy559]; with_reducible exact H) | (have H2_ := (Option.bind_some _ _).symm.trans H; rw [hy559]; with_reducible exact H2_) | (have H2_ := (Option.bind_some _ _).symm.trans H; with_reducible exact H2_) | with_reducible exact H | (rw [hy559]; exact H) | exact H
  have Ny559 := Aside0.mk hy559
  clear hy559
  obtain rfl := Option.some.inj H
  go_enter Tryd.func87, Tryd.ntmps87
  go_wp2_with (first | ((with_reducible refine gate_dst (N := 1) rfl ?_); refine Kd.R_lit Kd.string _ 9 ?hg (N := 1) ?hd (xs := ([(⟨#[46, 46]⟩ : ByteArray), (⟨#[33, 61]⟩ : ByteArray), (⟨#[60, 61]⟩ : ByteArray), (⟨#[62, 61]⟩ : ByteArray), (⟨#[40]⟩ : ByteArray), (⟨#[41]⟩ : ByteArray), (⟨#[91]⟩ : ByteArray), (⟨#[93]⟩ : ByteArray), (⟨#[123]⟩ : ByteArray), (⟨#[125]⟩ : ByteArray), (⟨#[44]⟩ : ByteArray), (⟨#[46]⟩ : ByteArray), (⟨#[43]⟩ : ByteArray), (⟨#[45]⟩ : ByteArray), (⟨#[42]⟩ : ByteArray), (⟨#[61]⟩ : ByteArray), (⟨#[60]⟩ : ByteArray), (⟨#[62]⟩ : ByteArray), (⟨#[33]⟩ : ByteArray)] : List ByteArray)) (inner := [.string (⟨#[46, 46]⟩ : ByteArray), .string (⟨#[33, 61]⟩ : ByteArray), .string (⟨#[60, 61]⟩ : ByteArray), .string (⟨#[62, 61]⟩ : ByteArray), .string (⟨#[40]⟩ : ByteArray), .string (⟨#[41]⟩ : ByteArray), .string (⟨#[91]⟩ : ByteArray), .string (⟨#[93]⟩ : ByteArray), .string (⟨#[123]⟩ : ByteArray), .string (⟨#[125]⟩ : ByteArray), .string (⟨#[44]⟩ : ByteArray), .string (⟨#[46]⟩ : ByteArray), .string (⟨#[43]⟩ : ByteArray), .string (⟨#[45]⟩ : ByteArray), .string (⟨#[42]⟩ : ByteArray), .string (⟨#[61]⟩ : ByteArray), .string (⟨#[60]⟩ : ByteArray), .string (⟨#[62]⟩ : ByteArray), .string (⟨#[33]⟩ : ByteArray)]) (ok := fun _ => True) (okp := fun _ => True) ?hr ?hp (fun _ hk => hk) trivial (Below.refl _ _) (Nat.le_refl _) (by simp) ?_; (case hd => rfl); (case hg => rfl); (case hr => first | (go_simp; done) | (go_simp; rfl)); (case hp => exact (Reps.one (show Kd.M Kd.string _ _ _ (⟨#[46, 46]⟩ : ByteArray) [.string (⟨#[46, 46]⟩ : ByteArray)] from rfl) (Reps.one (show Kd.M Kd.string _ _ _ (⟨#[33, 61]⟩ : ByteArray) [.string (⟨#[33, 61]⟩ : ByteArray)] from rfl) (Reps.one (show Kd.M Kd.string _ _ _ (⟨#[60, 61]⟩ : ByteArray) [.string (⟨#[60, 61]⟩ : ByteArray)] from rfl) (Reps.one (show Kd.M Kd.string _ _ _ (⟨#[62, 61]⟩ : ByteArray) [.string (⟨#[62, 61]⟩ : ByteArray)] from rfl) (Reps.one (show Kd.M Kd.string _ _ _ (⟨#[40]⟩ : ByteArray) [.string (⟨#[40]⟩ : ByteArray)] from rfl) (Reps.one (show Kd.M Kd.string _ _ _ (⟨#[41]⟩ : ByteArray) [.string (⟨#[41]⟩ : ByteArray)] from rfl) (Reps.one (show Kd.M Kd.string _ _ _ (⟨#[91]⟩ : ByteArray) [.string (⟨#[91]⟩ : ByteArray)] from rfl) (Reps.one (show Kd.M Kd.string _ _ _ (⟨#[93]⟩ : ByteArray) [.string (⟨#[93]⟩ : ByteArray)] from rfl) (Reps.one (show Kd.M Kd.string _ _ _ (⟨#[123]⟩ : ByteArray) [.string (⟨#[123]⟩ : ByteArray)] from rfl) (Reps.one (show Kd.M Kd.string _ _ _ (⟨#[125]⟩ : ByteArray) [.string (⟨#[125]⟩ : ByteArray)] from rfl) (Reps.one (show Kd.M Kd.string _ _ _ (⟨#[44]⟩ : ByteArray) [.string (⟨#[44]⟩ : ByteArray)] from rfl) (Reps.one (show Kd.M Kd.string _ _ _ (⟨#[46]⟩ : ByteArray) [.string (⟨#[46]⟩ : ByteArray)] from rfl) (Reps.one (show Kd.M Kd.string _ _ _ (⟨#[43]⟩ : ByteArray) [.string (⟨#[43]⟩ : ByteArray)] from rfl) (Reps.one (show Kd.M Kd.string _ _ _ (⟨#[45]⟩ : ByteArray) [.string (⟨#[45]⟩ : ByteArray)] from rfl) (Reps.one (show Kd.M Kd.string _ _ _ (⟨#[42]⟩ : ByteArray) [.string (⟨#[42]⟩ : ByteArray)] from rfl) (Reps.one (show Kd.M Kd.string _ _ _ (⟨#[61]⟩ : ByteArray) [.string (⟨#[61]⟩ : ByteArray)] from rfl) (Reps.one (show Kd.M Kd.string _ _ _ (⟨#[60]⟩ : ByteArray) [.string (⟨#[60]⟩ : ByteArray)] from rfl) (Reps.one (show Kd.M Kd.string _ _ _ (⟨#[62]⟩ : ByteArray) [.string (⟨#[62]⟩ : ByteArray)] from rfl) (Reps.one (show Kd.M Kd.string _ _ _ (⟨#[33]⟩ : ByteArray) [.string (⟨#[33]⟩ : ByteArray)] from rfl) (Reps.none _ _))))))))))))))))))))); intro v560 w1 ho2 hb hg_ hnew_; clear hg_ hnew_; (first | rw [← Ny559.out] at ho2 | (simp only [Int.reduceToNat] at ho2; rw [← Ny559.out] at ho2)); have HO561 := Aside0.mk (Kd.R_lower ho2 (below_size (hbT HB.out))); replace HB := bsA HB hb; clear hb ho2))
  go_ret
  exact ⟨_, by first | rfl | (simp [errW_none, errW_some] <;> rfl) | (simp [*, errW_none, errW_some] <;> rfl), by (with_reducible repeat (first | apply Kd.R_alloc | apply Kd.R_drewN | apply Kd.R_drew)); exact HO561.out, hbT HB.out⟩

end Go.Proofs.YthmcapdakplhdaaDoor.Pr
end

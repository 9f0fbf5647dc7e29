/-
Part 2 of the proof of the law TokenFreshUpto: texts Prx13, Prx1, ExtTok2, Prx17.
-/
import Derived.Test.YthmcapdakplhdaaDoorMTokenFreshUpto0
import Derived.Test.YthmcapdakplhdaaDoorMTokenFreshUpto1
/-! ## text Prx13 -/
section
namespace Go.Proofs.YthmcapdakplhdaaDoor.Pr
open Go.RowKit Go.Proofs.YthmcapdakplhdaaDoorW.PrintWords Go.Proofs.YthmcapdakplhdaaDoorW.PrintLast Go.Proofs.YthmcapdakplhdaaDoorW.PrintMore
attribute [local go_sem] max2_int min2_int max_two min_two max_three min_three max_four min_four   -- for this text's walks alone
attribute [local go_sem high] Go.Proofs.YthmcapdakplhdaaDoor.isSome_setCell
set_option maxRecDepth 100000
set_option linter.unusedVariables false
set_option linter.unusedSimpArgs false

/-! ### token_Scan: function 21 -/
mutual
def token_Scan.l0 : Nat → ByteArray → List (S44) → Int → Option ((List (S44)) × Int × Int)
  | 0, _, _, _ => none
  | k + 1, x0, x5, x6 => if x6 < (x0.size : Int) then (if 0 ≤ x6 then (if x6 ≤ (x0.size : Int) then ((strings_HasPrefix.f (x0.extract (x6 : Int).toNat x0.size) (⟨#[45, 45]⟩ : ByteArray)).bind fun t264 => (if t264 = true then (token_Scan.l1 k x0 x5 x6) else ((token_begins.f k (bt x0 x6)).bind fun t266 => (if t266 = 1 then (token_Scan.l0 k x0 x5 (wrap64 (x6 + 1))) else (if t266 = 2 then ((token_run.f k (x0.extract (x6 : Int).toNat x0.size) (.func (.func 48) #[] #[])).bind fun t267 => (if t267 > 32 then (some (([] : List (S44)), x6, 51)) else (if x6 ≤ (wrap64 (x6 + t267)) then (if (wrap64 (x6 + t267)) ≤ (x0.size : Int) then (if x5.length < 4398046511104 then (token_Scan.l0 k x0 (x5 ++ [(⟨1, x0.extract (x6 : Int).toNat ((wrap64 (x6 + t267)) : Int).toNat, x6⟩ : S44)]) (wrap64 (x6 + t267))) else (none)) else (none)) else (none)))) else (if t266 = 3 then ((token_run.f k (x0.extract (x6 : Int).toNat x0.size) (.func (.func 48) #[] #[])).bind fun t271 => (if x6 ≤ (wrap64 (x6 + t271)) then (if (wrap64 (x6 + t271)) ≤ (x0.size : Int) then ((token_isInt.f (x0.extract (x6 : Int).toNat ((wrap64 (x6 + t271)) : Int).toNat)).bind fun t272 => (if t272 = true then (if x5.length < 4398046511104 then (token_Scan.l0 k x0 (x5 ++ [(⟨2, x0.extract (x6 : Int).toNat ((wrap64 (x6 + t271)) : Int).toNat, x6⟩ : S44)]) (wrap64 (x6 + t271))) else (none)) else (some (([] : List (S44)), x6, 51)))) else (none)) else (none))) else (if t266 = 4 then ((token_unquote.f k x0 x6).bind fun bt276 => (if bt276.2.2 = 0 then (if x5.length < 4398046511104 then (token_Scan.l0 k x0 (x5 ++ [(⟨3, bt276.1, x6⟩ : S44)]) bt276.2.1) else (none)) else (some (([] : List (S44)), bt276.2.1, bt276.2.2)))) else (if t266 = 5 then ((token_signAt.f k (x0.extract (x6 : Int).toNat x0.size)).bind fun t282 => (if x6 ≤ (wrap64 (x6 + t282)) then (if (wrap64 (x6 + t282)) ≤ (x0.size : Int) then (if x5.length < 4398046511104 then (token_Scan.l0 k x0 (x5 ++ [(⟨4, x0.extract (x6 : Int).toNat ((wrap64 (x6 + t282)) : Int).toNat, x6⟩ : S44)]) (wrap64 (x6 + t282))) else (none)) else (none)) else (none))) else (some (([] : List (S44)), x6, 50)))))))))) else (none)) else (none)) else (if x5.length < 4398046511104 then (some ((x5 ++ [(⟨5, (⟨#[]⟩ : ByteArray), (x0.size : Int)⟩ : S44)]), 0, 0)) else (none))
def token_Scan.l1 : Nat → ByteArray → List (S44) → Int → Option ((List (S44)) × Int × Int)
  | 0, _, _, _ => none
  | k + 1, x0, x5, x6 => if x6 < (x0.size : Int) then (if 0 ≤ x6 then (if (bt x0 x6) = 10 then (token_Scan.l0 k x0 x5 x6) else (token_Scan.l1 k x0 x5 (wrap64 (x6 + 1)))) else (none)) else (token_Scan.l0 k x0 x5 x6)
end
def token_Scan.f (k : Nat) (a0 : ByteArray) : Option ((List (S44)) × Int × Int) := if (a0.size : Int) > 4096 then (some (([] : List (S44)), 0, 2)) else (token_Scan.l0 k a0 ([] : List (S44)) 0)
set_option maxRecDepth 100000 in
theorem token_Scan.l0_zero : ∀ y0 y1 y2, token_Scan.l0 0 y0 y1 y2 = none := fun _ _ _ => rfl
set_option maxRecDepth 100000 in
theorem token_Scan.l1_zero : ∀ y0 y1 y2, token_Scan.l1 0 y0 y1 y2 = none := fun _ _ _ => rfl
set_option maxRecDepth 100000 in
theorem token_Scan.mono_l : ∀ k, (∀ y0 y1 y2, LeO (token_Scan.l0 k y0 y1 y2) (token_Scan.l0 (k + 1) y0 y1 y2)) ∧ (∀ y0 y1 y2, LeO (token_Scan.l1 k y0 y1 y2) (token_Scan.l1 (k + 1) y0 y1 y2))
  | 0 => ⟨fun _ _ _ r h => by (unfold token_Scan.l0 at h; cases h), fun _ _ _ r h => by (unfold token_Scan.l1 at h; cases h)⟩
  | k + 1 => by
    obtain ⟨ih0, ih1⟩ := token_Scan.mono_l k
    refine ⟨?_, ?_⟩
    · intro y0 y1 y2
      unfold token_Scan.l0
      repeat' first
      | (with_reducible exact ih0 _ _ _)
      | (with_reducible exact ih1 _ _ _)
      | (with_reducible exact token_begins.mono _ _)
      | (with_reducible exact token_run.mono _ _ _)
      | (with_reducible exact token_signAt.mono _ _)
      | (with_reducible exact token_unquote.mono _ _ _)
      | (with_reducible exact LeO.refl _)
      | (with_reducible exact LeO.none _)
      | (with_reducible refine LeO.ite ?_ ?_)
      | (with_reducible refine LeO.bind ?_ (fun _ => ?_))
      | exact ih0 _ _ _
      | exact ih1 _ _ _
      | exact token_begins.mono _ _
      | exact token_run.mono _ _ _
      | exact token_signAt.mono _ _
      | exact token_unquote.mono _ _ _
      | exact LeO.none _
      | refine LeO.ite ?_ ?_
      | refine LeO.bind ?_ (fun _ => ?_)
    · intro y0 y1 y2
      unfold token_Scan.l1
      repeat' first
      | (with_reducible exact ih0 _ _ _)
      | (with_reducible exact ih1 _ _ _)
      | (with_reducible exact token_begins.mono _ _)
      | (with_reducible exact token_run.mono _ _ _)
      | (with_reducible exact token_signAt.mono _ _)
      | (with_reducible exact token_unquote.mono _ _ _)
      | (with_reducible exact LeO.refl _)
      | (with_reducible exact LeO.none _)
      | (with_reducible refine LeO.ite ?_ ?_)
      | (with_reducible refine LeO.bind ?_ (fun _ => ?_))
      | exact ih0 _ _ _
      | exact ih1 _ _ _
      | exact token_begins.mono _ _
      | exact token_run.mono _ _ _
      | exact token_signAt.mono _ _
      | exact token_unquote.mono _ _ _
      | exact LeO.none _
      | refine LeO.ite ?_ ?_
      | refine LeO.bind ?_ (fun _ => ?_)
set_option maxRecDepth 100000 in
theorem token_Scan.mono : ∀ a0 k, LeO (token_Scan.f k a0) (token_Scan.f (k + 1) a0) := by
  intro a0 k
  obtain ⟨ih0, ih1⟩ := token_Scan.mono_l k
  unfold token_Scan.f
  repeat' first
      | (with_reducible exact ih0 _ _ _)
      | (with_reducible exact ih1 _ _ _)
      | (with_reducible exact token_begins.mono _ _)
      | (with_reducible exact token_run.mono _ _ _)
      | (with_reducible exact token_signAt.mono _ _)
      | (with_reducible exact token_unquote.mono _ _ _)
      | (with_reducible exact LeO.refl _)
      | (with_reducible exact LeO.none _)
      | (with_reducible refine LeO.ite ?_ ?_)
      | (with_reducible refine LeO.bind ?_ (fun _ => ?_))
      | exact ih0 _ _ _
      | exact ih1 _ _ _
      | exact token_begins.mono _ _
      | exact token_run.mono _ _ _
      | exact token_signAt.mono _ _
      | exact token_unquote.mono _ _ _
      | exact LeO.none _
      | refine LeO.ite ?_ ?_
      | refine LeO.bind ?_ (fun _ => ?_)
set_option maxHeartbeats 8000000 in
set_option maxRecDepth 100000 in
theorem token_Scan.calls (k : Nat) (a0 : ByteArray) (r1 : List (S44)) (r2 : Int) (r3 : Int) (w : World) (HL_LErr : Aside0 (LErr w)) (h : token_Scan.f k a0 = some (r1, r2, r3)) :
    Calls Tryd.prog 21 #[.string a0] w fun e w' => ∃ v0_ : Value, e = .returned (.tuple #[v0_, .int .i64 r2, .int .i64 r3]) ∧ Kd.R k44 44 w' w.heap.size (fun _ => True) v0_ r1 ∧ Below w.heap.size w w' := by
  have hu44 := Tryd.underlying44
  have HB := Aside0.mk (Below.refl w.heap.size w)
  have H : (if (a0.size : Int) > 4096 then (some (([] : List (S44)), 0, 2)) else (token_Scan.l0 k a0 ([] : List (S44)) 0)) = some (r1, r2, r3) := h
  clear h
  by_cases c2 : (a0.size : Int) > 4096
  · rw [if_pos c2] at H
    have c2b0 : decide (4096 < (a0.size : Int)) = true := decide_eq_true c2
    have c2b1 : decide (4096 < a0.size) = true := decide_eq_true (by omega)
    clear c2
    simp only [Option.some.injEq, Prod.mk.injEq] at H
    obtain ⟨rfl, rfl, rfl⟩ := H
    go_enter Tryd.func21, Tryd.ntmps21
    go_wp2
    repeat (go_step3; go_wp2)
    try rw [Exit.noGoto_ret]
    go_ret3
    exact ⟨_, by first | rfl | (simp [errW_none, errW_some] <;> rfl) | (simp [*, errW_none, errW_some] <;> rfl), by first | exact Kd.R_nil _ _ _ _ _ | exact Kd.N_nil _ _ _ _ _ | exact Kd.V_nil _ _ _ _ _ | exact Kd.Q_nil _ _ _ _ _ | exact Kd.S_nil _ _ _ _ _, hbT HB.out⟩
  · rw [if_neg c2] at H
    have c2b0 : decide (4096 < (a0.size : Int)) = false := decide_eq_false c2
    have c2b1 : decide (4096 < a0.size) = false := decide_eq_false (by omega)
    clear c2
    have H' := Aside0.mk H
    clear H
    go_enter Tryd.func21, Tryd.ntmps21
    go_wp2
    repeat (go_step3; go_wp2)
    try simp only [Act.put, List.setIfInBounds_toArray, List.set_cons_succ, List.set_cons_zero]
    go_loopg [5, 6] k (fun kq v5 v6 w' => ∃ (x5_1 : List (S44)) (x6_1 : Int), v6 = .int .i64 x6_1 ∧ Aside0 (token_Scan.l0 kq a0 x5_1 x6_1 = some (r1, r2, r3)) ∧ Aside0 (kq ≤ k) ∧ Aside0 (Kd.R k44 44 w' w.heap.size (fun _ => True) v5 x5_1) ∧ Aside0 (Below w.heap.size w w'))
    case atStart => exact ⟨(([] : List (S44))), (0), (by first | rfl | (simp; done) | (simp [*]; done) | (simp; unfold wrap64; omega) | (congr 1; (try rw [Bool.eq_iff_iff]); simp [List.isEmpty_iff]; done)), H', ⟨Nat.le_refl _⟩, ⟨by first | exact Kd.R_nil _ _ _ _ _ | exact Kd.N_nil _ _ _ _ _ | exact Kd.V_nil _ _ _ _ _ | exact Kd.Q_nil _ _ _ _ _ | exact Kd.S_nil _ _ _ _ _⟩, ⟨hbT HB.out⟩⟩
    case round =>
      clear H'
      try clear c2
      try clear c2b0
      try clear c2b1
      try clear p2
      obtain ⟨x5_1, x6_1, rfl, HA, HK1, HO_5, HB⟩ := hrel
      cases gk with
      | zero => (have HA2 := HA.out; clear HA; revert HA2; rw [token_Scan.l0_zero]; intro h_; cases h_)
      | succ k1 =>
        have H := HA.out
        clear HA
        simp only [token_Scan.l0] at H
        by_cases c3 : x6_1 < (a0.size : Int)
        · rw [if_pos c3] at H
          have c3b0 : decide (x6_1 < (a0.size : Int)) = true := decide_eq_true c3
          clear c3
          by_cases c4 : 0 ≤ x6_1
          · rw [if_pos c4] at H
            have c4b0 := eq_true c4
            have c4b1 : decide (0 ≤ x6_1) = true := decide_eq_true c4
            clear c4
            by_cases c5 : x6_1 ≤ (a0.size : Int)
            · rw [if_pos c5] at H
              have c5b0 := eq_true c5
              have c5b1 : decide (x6_1 ≤ (a0.size : Int)) = true := decide_eq_true c5
              clear c5
              replace H := Option.bind_eq_some_iff.mp H
              obtain ⟨t264, A60, H⟩ := H
              replace H : (if t264 = true then (token_Scan.l1 k1 a0 x5_1 x6_1) else ((token_begins.f k1 (bt a0 x6_1)).bind fun t266 => (if t266 = 1 then (token_Scan.l0 k1 a0 x5_1 (wrap64 (x6_1 + 1))) else (if t266 = 2 then ((token_run.f k1 (a0.extract (x6_1 : Int).toNat a0.size) (.func (.func 48) #[] #[])).bind fun t267 => (if t267 > 32 then (some (([] : List (S44)), x6_1, 51)) else (if x6_1 ≤ (wrap64 (x6_1 + t267)) then (if (wrap64 (x6_1 + t267)) ≤ (a0.size : Int) then (if x5_1.length < 4398046511104 then (token_Scan.l0 k1 a0 (x5_1 ++ [(⟨1, a0.extract (x6_1 : Int).toNat ((wrap64 (x6_1 + t267)) : Int).toNat, x6_1⟩ : S44)]) (wrap64 (x6_1 + t267))) else (none)) else (none)) else (none)))) else (if t266 = 3 then ((token_run.f k1 (a0.extract (x6_1 : Int).toNat a0.size) (.func (.func 48) #[] #[])).bind fun t271 => (if x6_1 ≤ (wrap64 (x6_1 + t271)) then (if (wrap64 (x6_1 + t271)) ≤ (a0.size : Int) then ((token_isInt.f (a0.extract (x6_1 : Int).toNat ((wrap64 (x6_1 + t271)) : Int).toNat)).bind fun t272 => (if t272 = true then (if x5_1.length < 4398046511104 then (token_Scan.l0 k1 a0 (x5_1 ++ [(⟨2, a0.extract (x6_1 : Int).toNat ((wrap64 (x6_1 + t271)) : Int).toNat, x6_1⟩ : S44)]) (wrap64 (x6_1 + t271))) else (none)) else (some (([] : List (S44)), x6_1, 51)))) else (none)) else (none))) else (if t266 = 4 then ((token_unquote.f k1 a0 x6_1).bind fun bt276 => (if bt276.2.2 = 0 then (if x5_1.length < 4398046511104 then (token_Scan.l0 k1 a0 (x5_1 ++ [(⟨3, bt276.1, x6_1⟩ : S44)]) bt276.2.1) else (none)) else (some (([] : List (S44)), bt276.2.1, bt276.2.2)))) else (if t266 = 5 then ((token_signAt.f k1 (a0.extract (x6_1 : Int).toNat a0.size)).bind fun t282 => (if x6_1 ≤ (wrap64 (x6_1 + t282)) then (if (wrap64 (x6_1 + t282)) ≤ (a0.size : Int) then (if x5_1.length < 4398046511104 then (token_Scan.l0 k1 a0 (x5_1 ++ [(⟨4, a0.extract (x6_1 : Int).toNat ((wrap64 (x6_1 + t282)) : Int).toNat, x6_1⟩ : S44)]) (wrap64 (x6_1 + t282))) else (none)) else (none)) else (none))) else (some (([] : List (S44)), x6_1, 50))))))))) = some (r1, r2, r3) := H
              have A6 := Aside0.mk A60
              clear A60
              by_cases c7 : t264 = true
              · subst c7
                have H1 : (token_Scan.l1 k1 a0 x5_1 x6_1) = some (r1, r2, r3) := by rw [if_pos rfl] at H; exact H
                clear H
                have H := H1
                clear H1
                have H' := Aside0.mk H
                clear H
                go_wp2_with (first | ((with_reducible refine gate_callee (f := 45) rfl ?_); refine goesT (some 22) Tryd.func45 #[.string (a0.extract (x6_1 : Int).toNat a0.size), .string (⟨#[45, 45]⟩ : ByteArray)] ?_; (with_reducible refine (strings_HasPrefix.calls (a0.extract (x6_1 : Int).toNat a0.size) (⟨#[45, 45]⟩ : ByteArray) true _ A6.out).mono ?_); rintro e w' ⟨rfl, ⟨nd, rfl⟩⟩; refine ⟨_, rfl, ?_⟩))
                repeat (go_step3; go_wp2_with (first | ((with_reducible refine gate_callee (f := 45) rfl ?_); refine goesT (some 22) Tryd.func45 #[.string (a0.extract (x6_1 : Int).toNat a0.size), .string (⟨#[45, 45]⟩ : ByteArray)] ?_; (with_reducible refine (strings_HasPrefix.calls (a0.extract (x6_1 : Int).toNat a0.size) (⟨#[45, 45]⟩ : ByteArray) true _ A6.out).mono ?_); rintro e w' ⟨rfl, ⟨nd, rfl⟩⟩; refine ⟨_, rfl, ?_⟩)))
                try simp only [Act.put, List.setIfInBounds_toArray, List.set_cons_succ, List.set_cons_zero]
                go_loopg [6] k1 (fun kq v6 w' => ∃ (x6_2 : Int), v6 = .int .i64 x6_2 ∧ Aside0 (token_Scan.l1 kq a0 x5_1 x6_2 = some (r1, r2, r3)) ∧ Aside0 (kq ≤ k1) ∧ Aside0 (Kd.R k44 44 w' w.heap.size (fun _ => True) u5 x5_1) ∧ Aside0 (Below w.heap.size w w'))
                case atStart => exact ⟨(x6_1), (by first | rfl | (simp; done) | (simp [*]; done) | (simp; unfold wrap64; omega) | (congr 1; (try rw [Bool.eq_iff_iff]); simp [List.isEmpty_iff]; done)), H', ⟨Nat.le_refl _⟩, ⟨by (with_reducible repeat (first | apply Kd.R_alloc | apply Kd.R_drewN | apply Kd.R_drew)); exact HO_5.out⟩, ⟨hbT HB.out⟩⟩
                case round =>
                  clear H'
                  try clear c2
                  try clear c2b0
                  try clear c2b1
                  try clear p2
                  try clear c3
                  try clear c3b0
                  try clear c4
                  try clear c4b0
                  try clear c4b1
                  try clear c5
                  try clear c5b0
                  try clear c5b1
                  try clear p6
                  try clear c7
                  try clear p2
                  obtain ⟨x6_2, rfl, HA, HK2, HO_5, HB⟩ := hrel
                  cases gk with
                  | zero => (have HA2 := HA.out; clear HA; revert HA2; rw [token_Scan.l1_zero]; intro h_; cases h_)
                  | succ k2 =>
                    have H := HA.out
                    clear HA
                    simp only [token_Scan.l1] at H
                    by_cases c8 : x6_2 < (a0.size : Int)
                    · rw [if_pos c8] at H
                      have c8b0 : decide (x6_2 < (a0.size : Int)) = true := decide_eq_true c8
                      clear c8
                      by_cases c9 : 0 ≤ x6_2
                      · rw [if_pos c9] at H
                        have c9b0 : decide (0 ≤ x6_2) = true := decide_eq_true c9
                        clear c9
                        by_cases c11 : (bt a0 x6_2) = 10
                        · rw [if_pos c11] at H
                          have c11b0 : ((bt a0 x6_2) == 10) = true := beq_iff_eq.mpr c11
                          have c11b1 : ((bt a0 x6_2) != 10) = false := bne_eq_false_iff_eq.mpr c11
                          clear c11
                          have H' := Aside0.mk H
                          clear H
                          have p10 : 0 ≤ (x6_2 : Int) := of_decide_eq_true (by first | (with_reducible assumption) | assumption)
                          have q10 : x6_2 < (a0.size : Int) := of_decide_eq_true (by first | (with_reducible assumption) | assumption)
                          have hx10 := bt_at a0 x6_2
                          replace p10 := eq_true p10
                          replace q10 := eq_true q10
                          go_wp2
                          repeat (go_step3; go_wp2)
                          go_roundg k2
                          case measure => have := HK1.out; have := HK2.out; omega
                          case rel => exact ⟨(x5_1), (x6_2), (by first | rfl | (simp; done) | (simp [*]; done) | (simp; unfold wrap64; omega) | (congr 1; (try rw [Bool.eq_iff_iff]); simp [List.isEmpty_iff]; done)), H', ⟨by have := HK1.out; have := HK2.out; omega⟩, ⟨by (with_reducible repeat (first | apply Kd.R_alloc | apply Kd.R_drewN | apply Kd.R_drew)); exact HO_5.out⟩, ⟨hbT HB.out⟩⟩
                        · rw [if_neg c11] at H
                          have c11b0 : ((bt a0 x6_2) == 10) = false := beq_eq_false_iff_ne.mpr c11
                          have c11b1 : ((bt a0 x6_2) != 10) = true := bne_iff_ne.mpr c11
                          have H' := Aside0.mk H
                          clear H
                          have p10 : 0 ≤ (x6_2 : Int) := of_decide_eq_true (by first | (with_reducible assumption) | assumption)
                          have q10 : x6_2 < (a0.size : Int) := of_decide_eq_true (by first | (with_reducible assumption) | assumption)
                          have hx10 := bt_at a0 x6_2
                          replace p10 := eq_true p10
                          replace q10 := eq_true q10
                          go_wp2
                          repeat (go_step3; go_wp2)
                          go_roundg k2
                          case measure => have := HK1.out; have := HK2.out; omega
                          case rel => exact ⟨(wrap64 (x6_2 + 1)), (by first | rfl | (simp; done) | (simp [*]; done) | (simp; unfold wrap64; omega) | (congr 1; (try rw [Bool.eq_iff_iff]); simp [List.isEmpty_iff]; done)), H', ⟨by have := HK1.out; have := HK2.out; omega⟩, ⟨by (with_reducible repeat (first | apply Kd.R_alloc | apply Kd.R_drewN | apply Kd.R_drew)); exact HO_5.out⟩, ⟨hbT HB.out⟩⟩
                      · rw [if_neg c9] at H
                        exact absurd H (by simp)
                    · rw [if_neg c8] at H
                      have c8b0 : decide (x6_2 < (a0.size : Int)) = false := decide_eq_false c8
                      clear c8
                      have H' := Aside0.mk H
                      clear H
                      go_wp2
                      repeat (go_step3; go_wp2)
                      go_roundg k2
                      case measure => have := HK1.out; have := HK2.out; omega
                      case rel => exact ⟨(x5_1), (x6_2), (by first | rfl | (simp; done) | (simp [*]; done) | (simp; unfold wrap64; omega) | (congr 1; (try rw [Bool.eq_iff_iff]); simp [List.isEmpty_iff]; done)), H', ⟨by have := HK1.out; have := HK2.out; omega⟩, ⟨by (with_reducible repeat (first | apply Kd.R_alloc | apply Kd.R_drewN | apply Kd.R_drew)); exact HO_5.out⟩, ⟨hbT HB.out⟩⟩
              · replace c7 := Bool.eq_false_iff.mpr c7
                subst c7
                have H1 : ((token_begins.f k1 (bt a0 x6_1)).bind fun t266 => (if t266 = 1 then (token_Scan.l0 k1 a0 x5_1 (wrap64 (x6_1 + 1))) else (if t266 = 2 then ((token_run.f k1 (a0.extract (x6_1 : Int).toNat a0.size) (.func (.func 48) #[] #[])).bind fun t267 => (if t267 > 32 then (some (([] : List (S44)), x6_1, 51)) else (if x6_1 ≤ (wrap64 (x6_1 + t267)) then (if (wrap64 (x6_1 + t267)) ≤ (a0.size : Int) then (if x5_1.length < 4398046511104 then (token_Scan.l0 k1 a0 (x5_1 ++ [(⟨1, a0.extract (x6_1 : Int).toNat ((wrap64 (x6_1 + t267)) : Int).toNat, x6_1⟩ : S44)]) (wrap64 (x6_1 + t267))) else (none)) else (none)) else (none)))) else (if t266 = 3 then ((token_run.f k1 (a0.extract (x6_1 : Int).toNat a0.size) (.func (.func 48) #[] #[])).bind fun t271 => (if x6_1 ≤ (wrap64 (x6_1 + t271)) then (if (wrap64 (x6_1 + t271)) ≤ (a0.size : Int) then ((token_isInt.f (a0.extract (x6_1 : Int).toNat ((wrap64 (x6_1 + t271)) : Int).toNat)).bind fun t272 => (if t272 = true then (if x5_1.length < 4398046511104 then (token_Scan.l0 k1 a0 (x5_1 ++ [(⟨2, a0.extract (x6_1 : Int).toNat ((wrap64 (x6_1 + t271)) : Int).toNat, x6_1⟩ : S44)]) (wrap64 (x6_1 + t271))) else (none)) else (some (([] : List (S44)), x6_1, 51)))) else (none)) else (none))) else (if t266 = 4 then ((token_unquote.f k1 a0 x6_1).bind fun bt276 => (if bt276.2.2 = 0 then (if x5_1.length < 4398046511104 then (token_Scan.l0 k1 a0 (x5_1 ++ [(⟨3, bt276.1, x6_1⟩ : S44)]) bt276.2.1) else (none)) else (some (([] : List (S44)), bt276.2.1, bt276.2.2)))) else (if t266 = 5 then ((token_signAt.f k1 (a0.extract (x6_1 : Int).toNat a0.size)).bind fun t282 => (if x6_1 ≤ (wrap64 (x6_1 + t282)) then (if (wrap64 (x6_1 + t282)) ≤ (a0.size : Int) then (if x5_1.length < 4398046511104 then (token_Scan.l0 k1 a0 (x5_1 ++ [(⟨4, a0.extract (x6_1 : Int).toNat ((wrap64 (x6_1 + t282)) : Int).toNat, x6_1⟩ : S44)]) (wrap64 (x6_1 + t282))) else (none)) else (none)) else (none))) else (some (([] : List (S44)), x6_1, 50)))))))) = some (r1, r2, r3) := by rw [if_neg (show ¬ (false = true) by decide)] at H; exact H
                clear H
                have H := H1
                clear H1
                replace H := Option.bind_eq_some_iff.mp H
                obtain ⟨t266, A130, H⟩ := H
                replace H : (if t266 = 1 then (token_Scan.l0 k1 a0 x5_1 (wrap64 (x6_1 + 1))) else (if t266 = 2 then ((token_run.f k1 (a0.extract (x6_1 : Int).toNat a0.size) (.func (.func 48) #[] #[])).bind fun t267 => (if t267 > 32 then (some (([] : List (S44)), x6_1, 51)) else (if x6_1 ≤ (wrap64 (x6_1 + t267)) then (if (wrap64 (x6_1 + t267)) ≤ (a0.size : Int) then (if x5_1.length < 4398046511104 then (token_Scan.l0 k1 a0 (x5_1 ++ [(⟨1, a0.extract (x6_1 : Int).toNat ((wrap64 (x6_1 + t267)) : Int).toNat, x6_1⟩ : S44)]) (wrap64 (x6_1 + t267))) else (none)) else (none)) else (none)))) else (if t266 = 3 then ((token_run.f k1 (a0.extract (x6_1 : Int).toNat a0.size) (.func (.func 48) #[] #[])).bind fun t271 => (if x6_1 ≤ (wrap64 (x6_1 + t271)) then (if (wrap64 (x6_1 + t271)) ≤ (a0.size : Int) then ((token_isInt.f (a0.extract (x6_1 : Int).toNat ((wrap64 (x6_1 + t271)) : Int).toNat)).bind fun t272 => (if t272 = true then (if x5_1.length < 4398046511104 then (token_Scan.l0 k1 a0 (x5_1 ++ [(⟨2, a0.extract (x6_1 : Int).toNat ((wrap64 (x6_1 + t271)) : Int).toNat, x6_1⟩ : S44)]) (wrap64 (x6_1 + t271))) else (none)) else (some (([] : List (S44)), x6_1, 51)))) else (none)) else (none))) else (if t266 = 4 then ((token_unquote.f k1 a0 x6_1).bind fun bt276 => (if bt276.2.2 = 0 then (if x5_1.length < 4398046511104 then (token_Scan.l0 k1 a0 (x5_1 ++ [(⟨3, bt276.1, x6_1⟩ : S44)]) bt276.2.1) else (none)) else (some (([] : List (S44)), bt276.2.1, bt276.2.2)))) else (if t266 = 5 then ((token_signAt.f k1 (a0.extract (x6_1 : Int).toNat a0.size)).bind fun t282 => (if x6_1 ≤ (wrap64 (x6_1 + t282)) then (if (wrap64 (x6_1 + t282)) ≤ (a0.size : Int) then (if x5_1.length < 4398046511104 then (token_Scan.l0 k1 a0 (x5_1 ++ [(⟨4, a0.extract (x6_1 : Int).toNat ((wrap64 (x6_1 + t282)) : Int).toNat, x6_1⟩ : S44)]) (wrap64 (x6_1 + t282))) else (none)) else (none)) else (none))) else (some (([] : List (S44)), x6_1, 50))))))) = some (r1, r2, r3) := H
                have A13 := Aside0.mk A130
                clear A130
                by_cases c14 : t266 = 1
                · rw [if_pos c14] at H
                  have c14b0 : (t266 == 1) = true := beq_iff_eq.mpr c14
                  have c14b1 : (t266 != 1) = false := bne_eq_false_iff_eq.mpr c14
                  clear c14
                  have H' := Aside0.mk H
                  clear H
                  go_wp2_with (first | ((with_reducible refine gate_callee (f := 45) rfl ?_); refine goesT (some 22) Tryd.func45 #[.string (a0.extract (x6_1 : Int).toNat a0.size), .string (⟨#[45, 45]⟩ : ByteArray)] ?_; (with_reducible refine (strings_HasPrefix.calls (a0.extract (x6_1 : Int).toNat a0.size) (⟨#[45, 45]⟩ : ByteArray) false _ A6.out).mono ?_); rintro e w' ⟨rfl, ⟨nd, rfl⟩⟩; refine ⟨_, rfl, ?_⟩; (try (rw [drewN_self wr]; generalize hq_ : World.drewN wr _ = wr; have n0_ : Aside0 (Kd.R k44 44 wr w.heap.size (fun _ => True) u5 x5_1) := ⟨by rw [← hq_]; exact (by (with_reducible repeat (first | apply Kd.R_alloc | apply Kd.R_drewN | apply Kd.R_drew)); exact HO_5.out)⟩; have n1_ : Aside0 (Below w.heap.size w wr) := ⟨by rw [← hq_]; exact (hbT HB.out)⟩; clear HO_5 HB hq_; have HO_5 := n0_; have HB := n1_; clear n0_ n1_))) | ((with_reducible refine gate_dst (N := 7) rfl ?_); refine box_event ?hg (N := 7) ?hd (cs := #[.int .i64 0, .string (⟨#[]⟩ : ByteArray), .int .i64 0]) (t := 44) ?hr ?_; (case hd => rfl); (case hg => rfl); (case hr => first | (go_simp; done) | (go_simp; rfl)); intro gb265 hg w15 hbox hb; have BK265 := Aside0.mk hbox; have GW265 := geA hg HB; have GE265 := geA hg HB; replace HO_5 := Aside0.mk (Kd.R_below (Kd.R_elderB (by (with_reducible repeat (first | apply Kd.R_alloc | apply Kd.R_drewN | apply Kd.R_drew)); exact HO_5.out) gb265 (Nat.le_of_eq hg.symm)) hb); replace HB := bsA HB hb; clear hb hbox hg; have hcz16_0 : w15.cell? ⟨gb265, 0, none⟩ = some (.int .i64 0) := (blk_cell BK265.out 0).trans rfl; have hcz16_1 : w15.cell? ⟨gb265, 1, none⟩ = some (.string (⟨#[]⟩ : ByteArray)) := (blk_cell BK265.out 1).trans rfl; have hcz16_2 : w15.cell? ⟨gb265, 2, none⟩ = some (.int .i64 0) := (blk_cell BK265.out 2).trans rfl; have hfz16_0 := blk_frozen BK265.out 0; have hfz16_1 := blk_frozen BK265.out 1; have hfz16_2 := blk_frozen BK265.out 2; have p12 : 0 ≤ (x6_1 : Int) := of_decide_eq_true (by first | (with_reducible assumption) | assumption); have q12 : x6_1 < (a0.size : Int) := of_decide_eq_true (by first | (with_reducible assumption) | assumption); have hx12 := bt_at a0 x6_1; replace p12 := eq_true p12; replace q12 := eq_true q12) | ((with_reducible refine gate_callee (f := 46) rfl ?_); refine goesT (some 40) Tryd.func46 #[.int .u8 (bt a0 x6_1)] ?_; (with_reducible refine (token_begins.calls k1 (bt a0 x6_1) t266 _ A13.out).mono ?_); rintro e w' ⟨rfl, ⟨nd, rfl⟩⟩; refine ⟨_, rfl, ?_⟩))
                  repeat (go_step3; go_wp2_with (first | ((with_reducible refine gate_callee (f := 45) rfl ?_); refine goesT (some 22) Tryd.func45 #[.string (a0.extract (x6_1 : Int).toNat a0.size), .string (⟨#[45, 45]⟩ : ByteArray)] ?_; (with_reducible refine (strings_HasPrefix.calls (a0.extract (x6_1 : Int).toNat a0.size) (⟨#[45, 45]⟩ : ByteArray) false _ A6.out).mono ?_); rintro e w' ⟨rfl, ⟨nd, rfl⟩⟩; refine ⟨_, rfl, ?_⟩; (try (rw [drewN_self wr]; generalize hq_ : World.drewN wr _ = wr; have n0_ : Aside0 (Kd.R k44 44 wr w.heap.size (fun _ => True) u5 x5_1) := ⟨by rw [← hq_]; exact (by (with_reducible repeat (first | apply Kd.R_alloc | apply Kd.R_drewN | apply Kd.R_drew)); exact HO_5.out)⟩; have n1_ : Aside0 (Below w.heap.size w wr) := ⟨by rw [← hq_]; exact (hbT HB.out)⟩; clear HO_5 HB hq_; have HO_5 := n0_; have HB := n1_; clear n0_ n1_))) | ((with_reducible refine gate_dst (N := 7) rfl ?_); refine box_event ?hg (N := 7) ?hd (cs := #[.int .i64 0, .string (⟨#[]⟩ : ByteArray), .int .i64 0]) (t := 44) ?hr ?_; (case hd => rfl); (case hg => rfl); (case hr => first | (go_simp; done) | (go_simp; rfl)); intro gb265 hg w15 hbox hb; have BK265 := Aside0.mk hbox; have GW265 := geA hg HB; have GE265 := geA hg HB; replace HO_5 := Aside0.mk (Kd.R_below (Kd.R_elderB (by (with_reducible repeat (first | apply Kd.R_alloc | apply Kd.R_drewN | apply Kd.R_drew)); exact HO_5.out) gb265 (Nat.le_of_eq hg.symm)) hb); replace HB := bsA HB hb; clear hb hbox hg; have hcz16_0 : w15.cell? ⟨gb265, 0, none⟩ = some (.int .i64 0) := (blk_cell BK265.out 0).trans rfl; have hcz16_1 : w15.cell? ⟨gb265, 1, none⟩ = some (.string (⟨#[]⟩ : ByteArray)) := (blk_cell BK265.out 1).trans rfl; have hcz16_2 : w15.cell? ⟨gb265, 2, none⟩ = some (.int .i64 0) := (blk_cell BK265.out 2).trans rfl; have hfz16_0 := blk_frozen BK265.out 0; have hfz16_1 := blk_frozen BK265.out 1; have hfz16_2 := blk_frozen BK265.out 2; have p12 : 0 ≤ (x6_1 : Int) := of_decide_eq_true (by first | (with_reducible assumption) | assumption); have q12 : x6_1 < (a0.size : Int) := of_decide_eq_true (by first | (with_reducible assumption) | assumption); have hx12 := bt_at a0 x6_1; replace p12 := eq_true p12; replace q12 := eq_true q12) | ((with_reducible refine gate_callee (f := 46) rfl ?_); refine goesT (some 40) Tryd.func46 #[.int .u8 (bt a0 x6_1)] ?_; (with_reducible refine (token_begins.calls k1 (bt a0 x6_1) t266 _ A13.out).mono ?_); rintro e w' ⟨rfl, ⟨nd, rfl⟩⟩; refine ⟨_, rfl, ?_⟩)))
                  go_roundg k1
                  case measure => have := HK1.out; omega
                  case rel => exact ⟨(x5_1), (wrap64 (x6_1 + 1)), (by first | rfl | (simp; done) | (simp [*]; done) | (simp; unfold wrap64; omega) | (congr 1; (try rw [Bool.eq_iff_iff]); simp [List.isEmpty_iff]; done)), H', ⟨by have := HK1.out; omega⟩, ⟨by (with_reducible repeat (first | apply Kd.R_alloc | apply Kd.R_drewN | apply Kd.R_drew)); exact Kd.R_mono (Kd.R_far (p := ⟨gb265, 2, none⟩) (Kd.R_far (p := ⟨gb265, 1, none⟩) (Kd.R_far (p := ⟨gb265, 0, none⟩) (Kd.R_mono HO_5.out (fun k_ hk => (⟨hk, hk.2⟩ : _ ∧ k_ ≠ gb265))) (fun _ hk => hk.2) (.int .i64 0)) (fun _ hk => hk.2) (.string (⟨#[]⟩ : ByteArray))) (fun _ hk => hk.2) (.int .i64 x6_1)) (fun _ hk => trivial)⟩, ⟨hbT HB.out⟩⟩
                · rw [if_neg c14] at H
                  have c14b0 : (t266 == 1) = false := beq_eq_false_iff_ne.mpr c14
                  have c14b1 : (t266 != 1) = true := bne_iff_ne.mpr c14
                  by_cases c17 : t266 = 2
                  · rw [if_pos c17] at H
                    have c17b0 : (t266 == 2) = true := beq_iff_eq.mpr c17
                    have c17b1 : (t266 != 2) = false := bne_eq_false_iff_eq.mpr c17
                    clear c17
                    have c18b0 := eq_true (of_decide_eq_true (by first | (with_reducible assumption) | assumption) : 0 ≤ x6_1)
                    have c19b0 := eq_true (of_decide_eq_true (by first | (with_reducible assumption) | assumption) : x6_1 ≤ (a0.size : Int))
                    replace H := Option.bind_eq_some_iff.mp H
                    obtain ⟨t267, A200, H⟩ := H
                    replace H : (if t267 > 32 then (some (([] : List (S44)), x6_1, 51)) else (if x6_1 ≤ (wrap64 (x6_1 + t267)) then (if (wrap64 (x6_1 + t267)) ≤ (a0.size : Int) then (if x5_1.length < 4398046511104 then (token_Scan.l0 k1 a0 (x5_1 ++ [(⟨1, a0.extract (x6_1 : Int).toNat ((wrap64 (x6_1 + t267)) : Int).toNat, x6_1⟩ : S44)]) (wrap64 (x6_1 + t267))) else (none)) else (none)) else (none))) = some (r1, r2, r3) := H
                    have A20 := Aside0.mk A200
                    clear A200
                    by_cases c21 : t267 > 32
                    · rw [if_pos c21] at H
                      have c21b0 : decide (32 < t267) = true := decide_eq_true c21
                      clear c21
                      simp only [Option.some.injEq, Prod.mk.injEq] at H
                      obtain ⟨rfl, rfl, rfl⟩ := H
                      go_wp2_with (first | ((with_reducible refine gate_callee (f := 45) rfl ?_); refine goesT (some 22) Tryd.func45 #[.string (a0.extract (x6_1 : Int).toNat a0.size), .string (⟨#[45, 45]⟩ : ByteArray)] ?_; (with_reducible refine (strings_HasPrefix.calls (a0.extract (x6_1 : Int).toNat a0.size) (⟨#[45, 45]⟩ : ByteArray) false _ A6.out).mono ?_); rintro e w' ⟨rfl, ⟨nd, rfl⟩⟩; refine ⟨_, rfl, ?_⟩; (try (rw [drewN_self wr]; generalize hq_ : World.drewN wr _ = wr; have n0_ : Aside0 (Kd.R k44 44 wr w.heap.size (fun _ => True) u5 x5_1) := ⟨by rw [← hq_]; exact (by (with_reducible repeat (first | apply Kd.R_alloc | apply Kd.R_drewN | apply Kd.R_drew)); exact HO_5.out)⟩; have n1_ : Aside0 (Below w.heap.size w wr) := ⟨by rw [← hq_]; exact (hbT HB.out)⟩; clear HO_5 HB hq_; have HO_5 := n0_; have HB := n1_; clear n0_ n1_))) | ((with_reducible refine gate_dst (N := 7) rfl ?_); refine box_event ?hg (N := 7) ?hd (cs := #[.int .i64 0, .string (⟨#[]⟩ : ByteArray), .int .i64 0]) (t := 44) ?hr ?_; (case hd => rfl); (case hg => rfl); (case hr => first | (go_simp; done) | (go_simp; rfl)); intro gb265 hg w22 hbox hb; have BK265 := Aside0.mk hbox; have GW265 := geA hg HB; have GE265 := geA hg HB; replace HO_5 := Aside0.mk (Kd.R_below (Kd.R_elderB (by (with_reducible repeat (first | apply Kd.R_alloc | apply Kd.R_drewN | apply Kd.R_drew)); exact HO_5.out) gb265 (Nat.le_of_eq hg.symm)) hb); replace HB := bsA HB hb; clear hb hbox hg; have hcz23_0 : w22.cell? ⟨gb265, 0, none⟩ = some (.int .i64 0) := (blk_cell BK265.out 0).trans rfl; have hcz23_1 : w22.cell? ⟨gb265, 1, none⟩ = some (.string (⟨#[]⟩ : ByteArray)) := (blk_cell BK265.out 1).trans rfl; have hcz23_2 : w22.cell? ⟨gb265, 2, none⟩ = some (.int .i64 0) := (blk_cell BK265.out 2).trans rfl; have hfz23_0 := blk_frozen BK265.out 0; have hfz23_1 := blk_frozen BK265.out 1; have hfz23_2 := blk_frozen BK265.out 2; have p12 : 0 ≤ (x6_1 : Int) := of_decide_eq_true (by first | (with_reducible assumption) | assumption); have q12 : x6_1 < (a0.size : Int) := of_decide_eq_true (by first | (with_reducible assumption) | assumption); have hx12 := bt_at a0 x6_1; replace p12 := eq_true p12; replace q12 := eq_true q12) | ((with_reducible refine gate_callee (f := 46) rfl ?_); refine goesT (some 40) Tryd.func46 #[.int .u8 (bt a0 x6_1)] ?_; (with_reducible refine (token_begins.calls k1 (bt a0 x6_1) t266 _ A13.out).mono ?_); rintro e w' ⟨rfl, ⟨nd, rfl⟩⟩; refine ⟨_, rfl, ?_⟩) | ((with_reducible refine gate_callee (f := 47) rfl ?_); refine goesT (some 51) Tryd.func47 #[.string (a0.extract (x6_1 : Int).toNat a0.size), (.func (.func 48) #[] #[])] ?_; (with_reducible refine (token_run.calls k1 (a0.extract (x6_1 : Int).toNat a0.size) (.func (.func 48) #[] #[]) t267 _ A20.out).mono ?_); rintro e w' ⟨rfl, ⟨nd, rfl⟩⟩; refine ⟨_, rfl, ?_⟩))
                      repeat (go_step3; go_wp2_with (first | ((with_reducible refine gate_callee (f := 45) rfl ?_); refine goesT (some 22) Tryd.func45 #[.string (a0.extract (x6_1 : Int).toNat a0.size), .string (⟨#[45, 45]⟩ : ByteArray)] ?_; (with_reducible refine (strings_HasPrefix.calls (a0.extract (x6_1 : Int).toNat a0.size) (⟨#[45, 45]⟩ : ByteArray) false _ A6.out).mono ?_); rintro e w' ⟨rfl, ⟨nd, rfl⟩⟩; refine ⟨_, rfl, ?_⟩; (try (rw [drewN_self wr]; generalize hq_ : World.drewN wr _ = wr; have n0_ : Aside0 (Kd.R k44 44 wr w.heap.size (fun _ => True) u5 x5_1) := ⟨by rw [← hq_]; exact (by (with_reducible repeat (first | apply Kd.R_alloc | apply Kd.R_drewN | apply Kd.R_drew)); exact HO_5.out)⟩; have n1_ : Aside0 (Below w.heap.size w wr) := ⟨by rw [← hq_]; exact (hbT HB.out)⟩; clear HO_5 HB hq_; have HO_5 := n0_; have HB := n1_; clear n0_ n1_))) | ((with_reducible refine gate_dst (N := 7) rfl ?_); refine box_event ?hg (N := 7) ?hd (cs := #[.int .i64 0, .string (⟨#[]⟩ : ByteArray), .int .i64 0]) (t := 44) ?hr ?_; (case hd => rfl); (case hg => rfl); (case hr => first | (go_simp; done) | (go_simp; rfl)); intro gb265 hg w22 hbox hb; have BK265 := Aside0.mk hbox; have GW265 := geA hg HB; have GE265 := geA hg HB; replace HO_5 := Aside0.mk (Kd.R_below (Kd.R_elderB (by (with_reducible repeat (first | apply Kd.R_alloc | apply Kd.R_drewN | apply Kd.R_drew)); exact HO_5.out) gb265 (Nat.le_of_eq hg.symm)) hb); replace HB := bsA HB hb; clear hb hbox hg; have hcz23_0 : w22.cell? ⟨gb265, 0, none⟩ = some (.int .i64 0) := (blk_cell BK265.out 0).trans rfl; have hcz23_1 : w22.cell? ⟨gb265, 1, none⟩ = some (.string (⟨#[]⟩ : ByteArray)) := (blk_cell BK265.out 1).trans rfl; have hcz23_2 : w22.cell? ⟨gb265, 2, none⟩ = some (.int .i64 0) := (blk_cell BK265.out 2).trans rfl; have hfz23_0 := blk_frozen BK265.out 0; have hfz23_1 := blk_frozen BK265.out 1; have hfz23_2 := blk_frozen BK265.out 2; have p12 : 0 ≤ (x6_1 : Int) := of_decide_eq_true (by first | (with_reducible assumption) | assumption); have q12 : x6_1 < (a0.size : Int) := of_decide_eq_true (by first | (with_reducible assumption) | assumption); have hx12 := bt_at a0 x6_1; replace p12 := eq_true p12; replace q12 := eq_true q12) | ((with_reducible refine gate_callee (f := 46) rfl ?_); refine goesT (some 40) Tryd.func46 #[.int .u8 (bt a0 x6_1)] ?_; (with_reducible refine (token_begins.calls k1 (bt a0 x6_1) t266 _ A13.out).mono ?_); rintro e w' ⟨rfl, ⟨nd, rfl⟩⟩; refine ⟨_, rfl, ?_⟩) | ((with_reducible refine gate_callee (f := 47) rfl ?_); refine goesT (some 51) Tryd.func47 #[.string (a0.extract (x6_1 : Int).toNat a0.size), (.func (.func 48) #[] #[])] ?_; (with_reducible refine (token_run.calls k1 (a0.extract (x6_1 : Int).toNat a0.size) (.func (.func 48) #[] #[]) t267 _ A20.out).mono ?_); rintro e w' ⟨rfl, ⟨nd, rfl⟩⟩; refine ⟨_, rfl, ?_⟩)))
                      try rw [Exit.noGoto_ret]
                      go_ret3
                      exact ⟨_, by first | rfl | (simp [errW_none, errW_some] <;> rfl) | (simp [*, errW_none, errW_some] <;> rfl), by first | exact Kd.R_nil _ _ _ _ _ | exact Kd.N_nil _ _ _ _ _ | exact Kd.V_nil _ _ _ _ _ | exact Kd.Q_nil _ _ _ _ _ | exact Kd.S_nil _ _ _ _ _, hbT HB.out⟩
                    · rw [if_neg c21] at H
                      have c21b0 : decide (32 < t267) = false := decide_eq_false c21
                      clear c21
                      have c24b0 := eq_true (of_decide_eq_true (by first | (with_reducible assumption) | assumption) : 0 ≤ x6_1)
                      by_cases c25 : x6_1 ≤ (wrap64 (x6_1 + t267))
                      · rw [if_pos c25] at H
                        have c25b0 := eq_true c25
                        have c25b1 : decide (x6_1 ≤ (wrap64 (x6_1 + t267))) = true := decide_eq_true c25
                        by_cases c26 : (wrap64 (x6_1 + t267)) ≤ (a0.size : Int)
                        · rw [if_pos c26] at H
                          have c26b0 := eq_true c26
                          have c26b1 : decide ((wrap64 (x6_1 + t267)) ≤ (a0.size : Int)) = true := decide_eq_true c26
                          by_cases c27 : x5_1.length < 4398046511104
                          · rw [if_pos c27] at H
                            have LMc27 := Aside0.mk c27
                            clear c27
                            obtain ⟨y268, hy268⟩ : ∃ y_ : List (S44), y_ = (x5_1 ++ [(⟨1, a0.extract (x6_1 : Int).toNat ((wrap64 (x6_1 + t267)) : Int).toNat, x6_1⟩ : S44)]) := ⟨_, rfl⟩
                            replace H : (token_Scan.l0 k1 a0 y268 (wrap64 (x6_1 + t267))) = some (r1, r2, r3) := by first | (rw [hy268]; with_reducible exact H) | (have H2_ := (Option.bind_some _ _).symm.trans H; rw [hy268]; with_reducible exact H2_) | (have H2_ := (Option.bind_some _ _).symm.trans H; with_reducible exact H2_) | with_reducible exact H | (rw [hy268]; exact H) | exact H
                            have Ny268 := Aside0.mk hy268
                            clear hy268
                            have H' := Aside0.mk H
                            clear H
                            go_wp2_with (first | ((with_reducible refine gate_callee (f := 45) rfl ?_); refine goesT (some 22) Tryd.func45 #[.string (a0.extract (x6_1 : Int).toNat a0.size), .string (⟨#[45, 45]⟩ : ByteArray)] ?_; (with_reducible refine (strings_HasPrefix.calls (a0.extract (x6_1 : Int).toNat a0.size) (⟨#[45, 45]⟩ : ByteArray) false _ A6.out).mono ?_); rintro e w' ⟨rfl, ⟨nd, rfl⟩⟩; refine ⟨_, rfl, ?_⟩; (try (rw [drewN_self wr]; generalize hq_ : World.drewN wr _ = wr; have n0_ : Aside0 (Kd.R k44 44 wr w.heap.size (fun _ => True) u5 x5_1) := ⟨by rw [← hq_]; exact (by (with_reducible repeat (first | apply Kd.R_alloc | apply Kd.R_drewN | apply Kd.R_drew)); exact HO_5.out)⟩; have n1_ : Aside0 (Below w.heap.size w wr) := ⟨by rw [← hq_]; exact (hbT HB.out)⟩; clear HO_5 HB hq_; have HO_5 := n0_; have HB := n1_; clear n0_ n1_))) | ((with_reducible refine gate_dst (N := 7) rfl ?_); refine box_event ?hg (N := 7) ?hd (cs := #[.int .i64 0, .string (⟨#[]⟩ : ByteArray), .int .i64 0]) (t := 44) ?hr ?_; (case hd => rfl); (case hg => rfl); (case hr => first | (go_simp; done) | (go_simp; rfl)); intro gb265 hg w28 hbox hb; have BK265 := Aside0.mk hbox; have GW265 := geA hg HB; have GE265 := geA hg HB; replace HO_5 := Aside0.mk (Kd.R_below (Kd.R_elderB (by (with_reducible repeat (first | apply Kd.R_alloc | apply Kd.R_drewN | apply Kd.R_drew)); exact HO_5.out) gb265 (Nat.le_of_eq hg.symm)) hb); replace HB := bsA HB hb; clear hb hbox hg; have hcz29_0 : w28.cell? ⟨gb265, 0, none⟩ = some (.int .i64 0) := (blk_cell BK265.out 0).trans rfl; have hcz29_1 : w28.cell? ⟨gb265, 1, none⟩ = some (.string (⟨#[]⟩ : ByteArray)) := (blk_cell BK265.out 1).trans rfl; have hcz29_2 : w28.cell? ⟨gb265, 2, none⟩ = some (.int .i64 0) := (blk_cell BK265.out 2).trans rfl; have hfz29_0 := blk_frozen BK265.out 0; have hfz29_1 := blk_frozen BK265.out 1; have hfz29_2 := blk_frozen BK265.out 2; have p12 : 0 ≤ (x6_1 : Int) := of_decide_eq_true (by first | (with_reducible assumption) | assumption); have q12 : x6_1 < (a0.size : Int) := of_decide_eq_true (by first | (with_reducible assumption) | assumption); have hx12 := bt_at a0 x6_1; replace p12 := eq_true p12; replace q12 := eq_true q12) | ((with_reducible refine gate_callee (f := 46) rfl ?_); refine goesT (some 40) Tryd.func46 #[.int .u8 (bt a0 x6_1)] ?_; (with_reducible refine (token_begins.calls k1 (bt a0 x6_1) t266 _ A13.out).mono ?_); rintro e w' ⟨rfl, ⟨nd, rfl⟩⟩; refine ⟨_, rfl, ?_⟩) | ((with_reducible refine gate_callee (f := 47) rfl ?_); refine goesT (some 51) Tryd.func47 #[.string (a0.extract (x6_1 : Int).toNat a0.size), (.func (.func 48) #[] #[])] ?_; (with_reducible refine (token_run.calls k1 (a0.extract (x6_1 : Int).toNat a0.size) (.func (.func 48) #[] #[]) t267 _ A20.out).mono ?_); rintro e w' ⟨rfl, ⟨nd, rfl⟩⟩; refine ⟨_, rfl, ?_⟩) | ((with_reducible refine gate_builtin (b := .append) (xs := #[.tmp 106, .tmp 108]) rfl ?_); at_builtin; refine Kd.R_append k44 (w0 := w) w.heap.size rfl (.tmp 106) (.tmp 108) 40 44 (.agg #[(.int .i64 0), (.string ⟨#[]⟩), (.int .i64 0)]) 32 rfl Tryd.underlying40 info44 rfl (by decide) (by omega) u5 x5_1 (⟨1, a0.extract (x6_1 : Int).toNat ((wrap64 (x6_1 + t267)) : Int).toNat, x6_1⟩ : S44) [.int .i64 1, .string (a0.extract (x6_1 : Int).toNat ((wrap64 (x6_1 + t267)) : Int).toNat), .int .i64 x6_1] (fun k_ => k_ ≠ gb265) (fun _ => False) rfl (by first | (go_simp; done) | (go_simp; rfl)) ?aP (fun _ hk => hk.elim) ?aF ?aO ?aB ?aS ?aL ?_; (case aP => exact k44_mkM _ _ _ (⟨1, a0.extract (x6_1 : Int).toNat ((wrap64 (x6_1 + t267)) : Int).toNat, x6_1⟩ : S44)); (case aB => exact (hbT HB.out)); (case aF => exact (fun k_ hk => Kd.freshB (g := gb265) (o := .cells #[.int .i64 1, .string (a0.extract (x6_1 : Int).toNat ((wrap64 (x6_1 + t267)) : Int).toNat), .int .i64 x6_1] 44 (0, 0)) (by (with_reducible repeat (first | refine blk_drewN ?_ _ | refine blk_drew ?_ | refine blk_alloc ?_ _)); refine blk_put (cs := #[.int .i64 1, .string (⟨#[]⟩ : ByteArray), .int .i64 x6_1]) ?_ 1 _ rfl; (with_reducible repeat (first | refine blk_drewN ?_ _ | refine blk_drew ?_ | refine blk_alloc ?_ _)); refine blk_put (cs := #[.int .i64 0, .string (⟨#[]⟩ : ByteArray), .int .i64 x6_1]) ?_ 0 _ rfl; (with_reducible repeat (first | refine blk_drewN ?_ _ | refine blk_drew ?_ | refine blk_alloc ?_ _)); refine blk_put (cs := #[.int .i64 0, .string (⟨#[]⟩ : ByteArray), .int .i64 0]) ?_ 2 _ rfl; (with_reducible repeat (first | refine blk_drewN ?_ _ | refine blk_drew ?_ | refine blk_alloc ?_ _)); refine blk_put (cs := #[.int .i64 0, .string (⟨#[]⟩ : ByteArray), .int .i64 0]) ?_ 1 _ rfl; (with_reducible repeat (first | refine blk_drewN ?_ _ | refine blk_drew ?_ | refine blk_alloc ?_ _)); refine blk_put (cs := #[.int .i64 0, .string (⟨#[]⟩ : ByteArray), .int .i64 0]) ?_ 0 _ rfl; (with_reducible repeat (first | refine blk_drewN ?_ _ | refine blk_drew ?_ | refine blk_alloc ?_ _)); exact BK265.out) k_ hk)); (case aO => exact (by (with_reducible repeat (first | apply Kd.R_alloc | apply Kd.R_drewN | apply Kd.R_drew)); exact Kd.R_mono (Kd.R_far (p := ⟨gb265, 1, none⟩) (Kd.R_far (p := ⟨gb265, 0, none⟩) (Kd.R_far (p := ⟨gb265, 2, none⟩) (Kd.R_far (p := ⟨gb265, 1, none⟩) (Kd.R_far (p := ⟨gb265, 0, none⟩) (Kd.R_mono HO_5.out (fun k_ hk => (⟨hk, hk.2⟩ : _ ∧ k_ ≠ gb265))) (fun _ hk => hk.2) (.int .i64 0)) (fun _ hk => hk.2) (.string (⟨#[]⟩ : ByteArray))) (fun _ hk => hk.2) (.int .i64 x6_1)) (fun _ hk => hk.2) (.int .i64 1)) (fun _ hk => hk.2) (.string (a0.extract (x6_1 : Int).toNat ((wrap64 (x6_1 + t267)) : Int).toNat))) (fun _ hk => hk.1.2))); (case aS => exact (below_size (hbT HB.out))); (case aL => have := LMc27.out; omega); intro v269 w30 ho hb hg hat; rw [← Ny268.out] at ho; have n0_ := Aside0.mk (blk_grown (g := gb265) (o := .cells #[.int .i64 1, .string (a0.extract (x6_1 : Int).toNat ((wrap64 (x6_1 + t267)) : Int).toNat), .int .i64 x6_1] 44 (0, 0)) (by (with_reducible repeat (first | refine blk_drewN ?_ _ | refine blk_drew ?_ | refine blk_alloc ?_ _)); refine blk_put (cs := #[.int .i64 1, .string (⟨#[]⟩ : ByteArray), .int .i64 x6_1]) ?_ 1 _ rfl; (with_reducible repeat (first | refine blk_drewN ?_ _ | refine blk_drew ?_ | refine blk_alloc ?_ _)); refine blk_put (cs := #[.int .i64 0, .string (⟨#[]⟩ : ByteArray), .int .i64 x6_1]) ?_ 0 _ rfl; (with_reducible repeat (first | refine blk_drewN ?_ _ | refine blk_drew ?_ | refine blk_alloc ?_ _)); refine blk_put (cs := #[.int .i64 0, .string (⟨#[]⟩ : ByteArray), .int .i64 0]) ?_ 2 _ rfl; (with_reducible repeat (first | refine blk_drewN ?_ _ | refine blk_drew ?_ | refine blk_alloc ?_ _)); refine blk_put (cs := #[.int .i64 0, .string (⟨#[]⟩ : ByteArray), .int .i64 0]) ?_ 1 _ rfl; (with_reducible repeat (first | refine blk_drewN ?_ _ | refine blk_drew ?_ | refine blk_alloc ?_ _)); refine blk_put (cs := #[.int .i64 0, .string (⟨#[]⟩ : ByteArray), .int .i64 0]) ?_ 0 _ rfl; (with_reducible repeat (first | refine blk_drewN ?_ _ | refine blk_drew ?_ | refine blk_alloc ?_ _)); exact BK265.out) hg (Kd.R_away HO_5.out (fun _ hk => hk.2))); have n1_ := Aside0.mk (hb); have n2_ := Aside0.mk (ho); clear BK265; clear HB; clear HO_5; have BK265 := n0_; have HB := n1_; have HO270 := n2_; clear n0_ n1_ n2_; clear ho hb hg hat))
                            repeat (go_step3; go_wp2_with (first | ((with_reducible refine gate_callee (f := 45) rfl ?_); refine goesT (some 22) Tryd.func45 #[.string (a0.extract (x6_1 : Int).toNat a0.size), .string (⟨#[45, 45]⟩ : ByteArray)] ?_; (with_reducible refine (strings_HasPrefix.calls (a0.extract (x6_1 : Int).toNat a0.size) (⟨#[45, 45]⟩ : ByteArray) false _ A6.out).mono ?_); rintro e w' ⟨rfl, ⟨nd, rfl⟩⟩; refine ⟨_, rfl, ?_⟩; (try (rw [drewN_self wr]; generalize hq_ : World.drewN wr _ = wr; have n0_ : Aside0 (Kd.R k44 44 wr w.heap.size (fun _ => True) u5 x5_1) := ⟨by rw [← hq_]; exact (by (with_reducible repeat (first | apply Kd.R_alloc | apply Kd.R_drewN | apply Kd.R_drew)); exact HO_5.out)⟩; have n1_ : Aside0 (Below w.heap.size w wr) := ⟨by rw [← hq_]; exact (hbT HB.out)⟩; clear HO_5 HB hq_; have HO_5 := n0_; have HB := n1_; clear n0_ n1_))) | ((with_reducible refine gate_dst (N := 7) rfl ?_); refine box_event ?hg (N := 7) ?hd (cs := #[.int .i64 0, .string (⟨#[]⟩ : ByteArray), .int .i64 0]) (t := 44) ?hr ?_; (case hd => rfl); (case hg => rfl); (case hr => first | (go_simp; done) | (go_simp; rfl)); intro gb265 hg w28 hbox hb; have BK265 := Aside0.mk hbox; have GW265 := geA hg HB; have GE265 := geA hg HB; replace HO_5 := Aside0.mk (Kd.R_below (Kd.R_elderB (by (with_reducible repeat (first | apply Kd.R_alloc | apply Kd.R_drewN | apply Kd.R_drew)); exact HO_5.out) gb265 (Nat.le_of_eq hg.symm)) hb); replace HB := bsA HB hb; clear hb hbox hg; have hcz29_0 : w28.cell? ⟨gb265, 0, none⟩ = some (.int .i64 0) := (blk_cell BK265.out 0).trans rfl; have hcz29_1 : w28.cell? ⟨gb265, 1, none⟩ = some (.string (⟨#[]⟩ : ByteArray)) := (blk_cell BK265.out 1).trans rfl; have hcz29_2 : w28.cell? ⟨gb265, 2, none⟩ = some (.int .i64 0) := (blk_cell BK265.out 2).trans rfl; have hfz29_0 := blk_frozen BK265.out 0; have hfz29_1 := blk_frozen BK265.out 1; have hfz29_2 := blk_frozen BK265.out 2; have p12 : 0 ≤ (x6_1 : Int) := of_decide_eq_true (by first | (with_reducible assumption) | assumption); have q12 : x6_1 < (a0.size : Int) := of_decide_eq_true (by first | (with_reducible assumption) | assumption); have hx12 := bt_at a0 x6_1; replace p12 := eq_true p12; replace q12 := eq_true q12) | ((with_reducible refine gate_callee (f := 46) rfl ?_); refine goesT (some 40) Tryd.func46 #[.int .u8 (bt a0 x6_1)] ?_; (with_reducible refine (token_begins.calls k1 (bt a0 x6_1) t266 _ A13.out).mono ?_); rintro e w' ⟨rfl, ⟨nd, rfl⟩⟩; refine ⟨_, rfl, ?_⟩) | ((with_reducible refine gate_callee (f := 47) rfl ?_); refine goesT (some 51) Tryd.func47 #[.string (a0.extract (x6_1 : Int).toNat a0.size), (.func (.func 48) #[] #[])] ?_; (with_reducible refine (token_run.calls k1 (a0.extract (x6_1 : Int).toNat a0.size) (.func (.func 48) #[] #[]) t267 _ A20.out).mono ?_); rintro e w' ⟨rfl, ⟨nd, rfl⟩⟩; refine ⟨_, rfl, ?_⟩) | ((with_reducible refine gate_builtin (b := .append) (xs := #[.tmp 106, .tmp 108]) rfl ?_); at_builtin; refine Kd.R_append k44 (w0 := w) w.heap.size rfl (.tmp 106) (.tmp 108) 40 44 (.agg #[(.int .i64 0), (.string ⟨#[]⟩), (.int .i64 0)]) 32 rfl Tryd.underlying40 info44 rfl (by decide) (by omega) u5 x5_1 (⟨1, a0.extract (x6_1 : Int).toNat ((wrap64 (x6_1 + t267)) : Int).toNat, x6_1⟩ : S44) [.int .i64 1, .string (a0.extract (x6_1 : Int).toNat ((wrap64 (x6_1 + t267)) : Int).toNat), .int .i64 x6_1] (fun k_ => k_ ≠ gb265) (fun _ => False) rfl (by first | (go_simp; done) | (go_simp; rfl)) ?aP (fun _ hk => hk.elim) ?aF ?aO ?aB ?aS ?aL ?_; (case aP => exact k44_mkM _ _ _ (⟨1, a0.extract (x6_1 : Int).toNat ((wrap64 (x6_1 + t267)) : Int).toNat, x6_1⟩ : S44)); (case aB => exact (hbT HB.out)); (case aF => exact (fun k_ hk => Kd.freshB (g := gb265) (o := .cells #[.int .i64 1, .string (a0.extract (x6_1 : Int).toNat ((wrap64 (x6_1 + t267)) : Int).toNat), .int .i64 x6_1] 44 (0, 0)) (by (with_reducible repeat (first | refine blk_drewN ?_ _ | refine blk_drew ?_ | refine blk_alloc ?_ _)); refine blk_put (cs := #[.int .i64 1, .string (⟨#[]⟩ : ByteArray), .int .i64 x6_1]) ?_ 1 _ rfl; (with_reducible repeat (first | refine blk_drewN ?_ _ | refine blk_drew ?_ | refine blk_alloc ?_ _)); refine blk_put (cs := #[.int .i64 0, .string (⟨#[]⟩ : ByteArray), .int .i64 x6_1]) ?_ 0 _ rfl; (with_reducible repeat (first | refine blk_drewN ?_ _ | refine blk_drew ?_ | refine blk_alloc ?_ _)); refine blk_put (cs := #[.int .i64 0, .string (⟨#[]⟩ : ByteArray), .int .i64 0]) ?_ 2 _ rfl; (with_reducible repeat (first | refine blk_drewN ?_ _ | refine blk_drew ?_ | refine blk_alloc ?_ _)); refine blk_put (cs := #[.int .i64 0, .string (⟨#[]⟩ : ByteArray), .int .i64 0]) ?_ 1 _ rfl; (with_reducible repeat (first | refine blk_drewN ?_ _ | refine blk_drew ?_ | refine blk_alloc ?_ _)); refine blk_put (cs := #[.int .i64 0, .string (⟨#[]⟩ : ByteArray), .int .i64 0]) ?_ 0 _ rfl; (with_reducible repeat (first | refine blk_drewN ?_ _ | refine blk_drew ?_ | refine blk_alloc ?_ _)); exact BK265.out) k_ hk)); (case aO => exact (by (with_reducible repeat (first | apply Kd.R_alloc | apply Kd.R_drewN | apply Kd.R_drew)); exact Kd.R_mono (Kd.R_far (p := ⟨gb265, 1, none⟩) (Kd.R_far (p := ⟨gb265, 0, none⟩) (Kd.R_far (p := ⟨gb265, 2, none⟩) (Kd.R_far (p := ⟨gb265, 1, none⟩) (Kd.R_far (p := ⟨gb265, 0, none⟩) (Kd.R_mono HO_5.out (fun k_ hk => (⟨hk, hk.2⟩ : _ ∧ k_ ≠ gb265))) (fun _ hk => hk.2) (.int .i64 0)) (fun _ hk => hk.2) (.string (⟨#[]⟩ : ByteArray))) (fun _ hk => hk.2) (.int .i64 x6_1)) (fun _ hk => hk.2) (.int .i64 1)) (fun _ hk => hk.2) (.string (a0.extract (x6_1 : Int).toNat ((wrap64 (x6_1 + t267)) : Int).toNat))) (fun _ hk => hk.1.2))); (case aS => exact (below_size (hbT HB.out))); (case aL => have := LMc27.out; omega); intro v269 w30 ho hb hg hat; rw [← Ny268.out] at ho; have n0_ := Aside0.mk (blk_grown (g := gb265) (o := .cells #[.int .i64 1, .string (a0.extract (x6_1 : Int).toNat ((wrap64 (x6_1 + t267)) : Int).toNat), .int .i64 x6_1] 44 (0, 0)) (by (with_reducible repeat (first | refine blk_drewN ?_ _ | refine blk_drew ?_ | refine blk_alloc ?_ _)); refine blk_put (cs := #[.int .i64 1, .string (⟨#[]⟩ : ByteArray), .int .i64 x6_1]) ?_ 1 _ rfl; (with_reducible repeat (first | refine blk_drewN ?_ _ | refine blk_drew ?_ | refine blk_alloc ?_ _)); refine blk_put (cs := #[.int .i64 0, .string (⟨#[]⟩ : ByteArray), .int .i64 x6_1]) ?_ 0 _ rfl; (with_reducible repeat (first | refine blk_drewN ?_ _ | refine blk_drew ?_ | refine blk_alloc ?_ _)); refine blk_put (cs := #[.int .i64 0, .string (⟨#[]⟩ : ByteArray), .int .i64 0]) ?_ 2 _ rfl; (with_reducible repeat (first | refine blk_drewN ?_ _ | refine blk_drew ?_ | refine blk_alloc ?_ _)); refine blk_put (cs := #[.int .i64 0, .string (⟨#[]⟩ : ByteArray), .int .i64 0]) ?_ 1 _ rfl; (with_reducible repeat (first | refine blk_drewN ?_ _ | refine blk_drew ?_ | refine blk_alloc ?_ _)); refine blk_put (cs := #[.int .i64 0, .string (⟨#[]⟩ : ByteArray), .int .i64 0]) ?_ 0 _ rfl; (with_reducible repeat (first | refine blk_drewN ?_ _ | refine blk_drew ?_ | refine blk_alloc ?_ _)); exact BK265.out) hg (Kd.R_away HO_5.out (fun _ hk => hk.2))); have n1_ := Aside0.mk (hb); have n2_ := Aside0.mk (ho); clear BK265; clear HB; clear HO_5; have BK265 := n0_; have HB := n1_; have HO270 := n2_; clear n0_ n1_ n2_; clear ho hb hg hat)))
                            go_roundg k1
                            case measure => have := HK1.out; omega
                            case rel => exact ⟨(y268), (wrap64 (x6_1 + t267)), (by first | rfl | (simp; done) | (simp [*]; done) | (simp; unfold wrap64; omega) | (congr 1; (try rw [Bool.eq_iff_iff]); simp [List.isEmpty_iff]; done)), H', ⟨by have := HK1.out; omega⟩, ⟨by (with_reducible repeat (first | apply Kd.R_alloc | apply Kd.R_drewN | apply Kd.R_drew)); exact Kd.R_mono HO270.out (fun _ hk => trivial)⟩, ⟨hbT HB.out⟩⟩
                          · rw [if_neg c27] at H
                            exact absurd H (by simp)
                        · rw [if_neg c26] at H
                          exact absurd H (by simp)
                      · rw [if_neg c25] at H
                        exact absurd H (by simp)
                  · rw [if_neg c17] at H
                    have c17b0 : (t266 == 2) = false := beq_eq_false_iff_ne.mpr c17
                    have c17b1 : (t266 != 2) = true := bne_iff_ne.mpr c17
                    by_cases c31 : t266 = 3
                    · rw [if_pos c31] at H
                      have c31b0 : (t266 == 3) = true := beq_iff_eq.mpr c31
                      have c31b1 : (t266 != 3) = false := bne_eq_false_iff_eq.mpr c31
                      clear c31
                      have c32b0 := eq_true (of_decide_eq_true (by first | (with_reducible assumption) | assumption) : 0 ≤ x6_1)
                      have c33b0 := eq_true (of_decide_eq_true (by first | (with_reducible assumption) | assumption) : x6_1 ≤ (a0.size : Int))
                      replace H := Option.bind_eq_some_iff.mp H
                      obtain ⟨t271, A340, H⟩ := H
                      replace H : (if x6_1 ≤ (wrap64 (x6_1 + t271)) then (if (wrap64 (x6_1 + t271)) ≤ (a0.size : Int) then ((token_isInt.f (a0.extract (x6_1 : Int).toNat ((wrap64 (x6_1 + t271)) : Int).toNat)).bind fun t272 => (if t272 = true then (if x5_1.length < 4398046511104 then (token_Scan.l0 k1 a0 (x5_1 ++ [(⟨2, a0.extract (x6_1 : Int).toNat ((wrap64 (x6_1 + t271)) : Int).toNat, x6_1⟩ : S44)]) (wrap64 (x6_1 + t271))) else (none)) else (some (([] : List (S44)), x6_1, 51)))) else (none)) else (none)) = some (r1, r2, r3) := H
                      have A34 := Aside0.mk A340
                      clear A340
                      have c35b0 := eq_true (of_decide_eq_true (by first | (with_reducible assumption) | assumption) : 0 ≤ x6_1)
                      by_cases c36 : x6_1 ≤ (wrap64 (x6_1 + t271))
                      · rw [if_pos c36] at H
                        have c36b0 := eq_true c36
                        have c36b1 : decide (x6_1 ≤ (wrap64 (x6_1 + t271))) = true := decide_eq_true c36
                        by_cases c37 : (wrap64 (x6_1 + t271)) ≤ (a0.size : Int)
                        · rw [if_pos c37] at H
                          have c37b0 := eq_true c37
                          have c37b1 : decide ((wrap64 (x6_1 + t271)) ≤ (a0.size : Int)) = true := decide_eq_true c37
                          replace H := Option.bind_eq_some_iff.mp H
                          obtain ⟨t272, A380, H⟩ := H
                          replace H : (if t272 = true then (if x5_1.length < 4398046511104 then (token_Scan.l0 k1 a0 (x5_1 ++ [(⟨2, a0.extract (x6_1 : Int).toNat ((wrap64 (x6_1 + t271)) : Int).toNat, x6_1⟩ : S44)]) (wrap64 (x6_1 + t271))) else (none)) else (some (([] : List (S44)), x6_1, 51))) = some (r1, r2, r3) := H
                          have A38 := Aside0.mk A380
                          clear A380
                          by_cases c39 : t272 = true
                          · subst c39
                            have H1 : (if x5_1.length < 4398046511104 then (token_Scan.l0 k1 a0 (x5_1 ++ [(⟨2, a0.extract (x6_1 : Int).toNat ((wrap64 (x6_1 + t271)) : Int).toNat, x6_1⟩ : S44)]) (wrap64 (x6_1 + t271))) else (none)) = some (r1, r2, r3) := by rw [if_pos rfl] at H; exact H
                            clear H
                            have H := H1
                            clear H1
                            have c40b0 := eq_true (of_decide_eq_true (by first | (with_reducible assumption) | assumption) : 0 ≤ x6_1)
                            have c41b0 := eq_true (of_decide_eq_true (by first | (with_reducible assumption) | assumption) : x6_1 ≤ (wrap64 (x6_1 + t271)))
                            have c42b0 := eq_true (of_decide_eq_true (by first | (with_reducible assumption) | assumption) : (wrap64 (x6_1 + t271)) ≤ (a0.size : Int))
                            by_cases c43 : x5_1.length < 4398046511104
                            · rw [if_pos c43] at H
                              have LMc43 := Aside0.mk c43
                              clear c43
                              obtain ⟨y273, hy273⟩ : ∃ y_ : List (S44), y_ = (x5_1 ++ [(⟨2, a0.extract (x6_1 : Int).toNat ((wrap64 (x6_1 + t271)) : Int).toNat, x6_1⟩ : S44)]) := ⟨_, rfl⟩
                              replace H : (token_Scan.l0 k1 a0 y273 (wrap64 (x6_1 + t271))) = some (r1, r2, r3) := by first | (rw [hy273]; with_reducible exact H) | (have H2_ := (Option.bind_some _ _).symm.trans H; rw [hy273]; with_reducible exact H2_) | (have H2_ := (Option.bind_some _ _).symm.trans H; with_reducible exact H2_) | with_reducible exact H | (rw [hy273]; exact H) | exact H
                              have Ny273 := Aside0.mk hy273
                              clear hy273
                              have H' := Aside0.mk H
                              clear H
                              go_wp2_with (first | ((with_reducible refine gate_callee (f := 45) rfl ?_); refine goesT (some 22) Tryd.func45 #[.string (a0.extract (x6_1 : Int).toNat a0.size), .string (⟨#[45, 45]⟩ : ByteArray)] ?_; (with_reducible refine (strings_HasPrefix.calls (a0.extract (x6_1 : Int).toNat a0.size) (⟨#[45, 45]⟩ : ByteArray) false _ A6.out).mono ?_); rintro e w' ⟨rfl, ⟨nd, rfl⟩⟩; refine ⟨_, rfl, ?_⟩; (try (rw [drewN_self wr]; generalize hq_ : World.drewN wr _ = wr; have n0_ : Aside0 (Kd.R k44 44 wr w.heap.size (fun _ => True) u5 x5_1) := ⟨by rw [← hq_]; exact (by (with_reducible repeat (first | apply Kd.R_alloc | apply Kd.R_drewN | apply Kd.R_drew)); exact HO_5.out)⟩; have n1_ : Aside0 (Below w.heap.size w wr) := ⟨by rw [← hq_]; exact (hbT HB.out)⟩; clear HO_5 HB hq_; have HO_5 := n0_; have HB := n1_; clear n0_ n1_))) | ((with_reducible refine gate_dst (N := 7) rfl ?_); refine box_event ?hg (N := 7) ?hd (cs := #[.int .i64 0, .string (⟨#[]⟩ : ByteArray), .int .i64 0]) (t := 44) ?hr ?_; (case hd => rfl); (case hg => rfl); (case hr => first | (go_simp; done) | (go_simp; rfl)); intro gb265 hg w44 hbox hb; have BK265 := Aside0.mk hbox; have GW265 := geA hg HB; have GE265 := geA hg HB; replace HO_5 := Aside0.mk (Kd.R_below (Kd.R_elderB (by (with_reducible repeat (first | apply Kd.R_alloc | apply Kd.R_drewN | apply Kd.R_drew)); exact HO_5.out) gb265 (Nat.le_of_eq hg.symm)) hb); replace HB := bsA HB hb; clear hb hbox hg; have hcz45_0 : w44.cell? ⟨gb265, 0, none⟩ = some (.int .i64 0) := (blk_cell BK265.out 0).trans rfl; have hcz45_1 : w44.cell? ⟨gb265, 1, none⟩ = some (.string (⟨#[]⟩ : ByteArray)) := (blk_cell BK265.out 1).trans rfl; have hcz45_2 : w44.cell? ⟨gb265, 2, none⟩ = some (.int .i64 0) := (blk_cell BK265.out 2).trans rfl; have hfz45_0 := blk_frozen BK265.out 0; have hfz45_1 := blk_frozen BK265.out 1; have hfz45_2 := blk_frozen BK265.out 2; have p12 : 0 ≤ (x6_1 : Int) := of_decide_eq_true (by first | (with_reducible assumption) | assumption); have q12 : x6_1 < (a0.size : Int) := of_decide_eq_true (by first | (with_reducible assumption) | assumption); have hx12 := bt_at a0 x6_1; replace p12 := eq_true p12; replace q12 := eq_true q12) | ((with_reducible refine gate_callee (f := 46) rfl ?_); refine goesT (some 40) Tryd.func46 #[.int .u8 (bt a0 x6_1)] ?_; (with_reducible refine (token_begins.calls k1 (bt a0 x6_1) t266 _ A13.out).mono ?_); rintro e w' ⟨rfl, ⟨nd, rfl⟩⟩; refine ⟨_, rfl, ?_⟩) | ((with_reducible refine gate_callee (f := 47) rfl ?_); refine goesT (some 61) Tryd.func47 #[.string (a0.extract (x6_1 : Int).toNat a0.size), (.func (.func 48) #[] #[])] ?_; (with_reducible refine (token_run.calls k1 (a0.extract (x6_1 : Int).toNat a0.size) (.func (.func 48) #[] #[]) t271 _ A34.out).mono ?_); rintro e w' ⟨rfl, ⟨nd, rfl⟩⟩; refine ⟨_, rfl, ?_⟩) | ((with_reducible refine gate_callee (f := 49) rfl ?_); refine goesT (some 69) Tryd.func49 #[.string (a0.extract (x6_1 : Int).toNat ((wrap64 (x6_1 + t271)) : Int).toNat)] ?_; (with_reducible refine (token_isInt.calls (a0.extract (x6_1 : Int).toNat ((wrap64 (x6_1 + t271)) : Int).toNat) true _ ?side1 A38.out).mono ?_); (case side1 => first | (with_reducible exact HL_LErr) | exact ⟨LErr.below HL_LErr.out (hbT HB.out)⟩); rintro e w46 ⟨rfl, hb⟩; refine ⟨_, rfl, ?_⟩; replace HO_5 := Aside0.mk (Kd.R_below (by (with_reducible repeat (first | apply Kd.R_alloc | apply Kd.R_drewN | apply Kd.R_drew)); exact (Kd.R_mono (Kd.R_far (p := ⟨gb265, 0, none⟩) (Kd.R_far (p := ⟨gb265, 2, none⟩) (Kd.R_far (p := ⟨gb265, 1, none⟩) (Kd.R_far (p := ⟨gb265, 0, none⟩) (Kd.R_mono HO_5.out (fun k_ hk => (⟨hk, hk.2⟩ : _ ∧ k_ ≠ gb265))) (fun _ hk => hk.2) (.int .i64 0)) (fun _ hk => hk.2) (.string (⟨#[]⟩ : ByteArray))) (fun _ hk => hk.2) (.int .i64 x6_1)) (fun _ hk => hk.2) (.int .i64 2)) (fun _ h_ => h_.1))) hb); replace BK265 := Aside0.mk (blk_below (g := gb265) (o := .cells #[.int .i64 2, .string (⟨#[]⟩ : ByteArray), .int .i64 x6_1] 44 (0, 0)) (by (with_reducible repeat (first | refine blk_drewN ?_ _ | refine blk_drew ?_ | refine blk_alloc ?_ _)); refine blk_put (cs := #[.int .i64 0, .string (⟨#[]⟩ : ByteArray), .int .i64 x6_1]) ?_ 0 _ rfl; (with_reducible repeat (first | refine blk_drewN ?_ _ | refine blk_drew ?_ | refine blk_alloc ?_ _)); refine blk_put (cs := #[.int .i64 0, .string (⟨#[]⟩ : ByteArray), .int .i64 0]) ?_ 2 _ rfl; (with_reducible repeat (first | refine blk_drewN ?_ _ | refine blk_drew ?_ | refine blk_alloc ?_ _)); refine blk_put (cs := #[.int .i64 0, .string (⟨#[]⟩ : ByteArray), .int .i64 0]) ?_ 1 _ rfl; (with_reducible repeat (first | refine blk_drewN ?_ _ | refine blk_drew ?_ | refine blk_alloc ?_ _)); refine blk_put (cs := #[.int .i64 0, .string (⟨#[]⟩ : ByteArray), .int .i64 0]) ?_ 0 _ rfl; (with_reducible repeat (first | refine blk_drewN ?_ _ | refine blk_drew ?_ | refine blk_alloc ?_ _)); exact BK265.out) hb); replace HB := bsA HB hb; (try clear hb); (try clear hb2); (try clear hk); (try clear hi); have hcz47_0 : w46.cell? ⟨gb265, 0, none⟩ = some (.int .i64 2) := (blk_cell BK265.out 0).trans rfl; have hcz47_1 : w46.cell? ⟨gb265, 1, none⟩ = some (.string (⟨#[]⟩ : ByteArray)) := (blk_cell BK265.out 1).trans rfl; have hcz47_2 : w46.cell? ⟨gb265, 2, none⟩ = some (.int .i64 x6_1) := (blk_cell BK265.out 2).trans rfl; have hfz47_0 := blk_frozen BK265.out 0; have hfz47_1 := blk_frozen BK265.out 1; have hfz47_2 := blk_frozen BK265.out 2) | ((with_reducible refine gate_builtin (b := .append) (xs := #[.tmp 106, .tmp 108]) rfl ?_); at_builtin; refine Kd.R_append k44 (w0 := w) w.heap.size rfl (.tmp 106) (.tmp 108) 40 44 (.agg #[(.int .i64 0), (.string ⟨#[]⟩), (.int .i64 0)]) 32 rfl Tryd.underlying40 info44 rfl (by decide) (by omega) u5 x5_1 (⟨2, a0.extract (x6_1 : Int).toNat ((wrap64 (x6_1 + t271)) : Int).toNat, x6_1⟩ : S44) [.int .i64 2, .string (a0.extract (x6_1 : Int).toNat ((wrap64 (x6_1 + t271)) : Int).toNat), .int .i64 x6_1] (fun k_ => k_ ≠ gb265) (fun _ => False) rfl (by first | (go_simp; done) | (go_simp; rfl)) ?aP (fun _ hk => hk.elim) ?aF ?aO ?aB ?aS ?aL ?_; (case aP => exact k44_mkM _ _ _ (⟨2, a0.extract (x6_1 : Int).toNat ((wrap64 (x6_1 + t271)) : Int).toNat, x6_1⟩ : S44)); (case aB => exact (hbT HB.out)); (case aF => exact (fun k_ hk => Kd.freshB (g := gb265) (o := .cells #[.int .i64 2, .string (a0.extract (x6_1 : Int).toNat ((wrap64 (x6_1 + t271)) : Int).toNat), .int .i64 x6_1] 44 (0, 0)) (by (with_reducible repeat (first | refine blk_drewN ?_ _ | refine blk_drew ?_ | refine blk_alloc ?_ _)); refine blk_put (cs := #[.int .i64 2, .string (⟨#[]⟩ : ByteArray), .int .i64 x6_1]) ?_ 1 _ rfl; (with_reducible repeat (first | refine blk_drewN ?_ _ | refine blk_drew ?_ | refine blk_alloc ?_ _)); exact BK265.out) k_ hk)); (case aO => exact (by (with_reducible repeat (first | apply Kd.R_alloc | apply Kd.R_drewN | apply Kd.R_drew)); exact Kd.R_mono (Kd.R_far (p := ⟨gb265, 1, none⟩) (Kd.R_mono HO_5.out (fun k_ hk => (⟨hk, hk.2⟩ : _ ∧ k_ ≠ gb265))) (fun _ hk => hk.2) (.string (a0.extract (x6_1 : Int).toNat ((wrap64 (x6_1 + t271)) : Int).toNat))) (fun _ hk => hk.1.2))); (case aS => exact (below_size (hbT HB.out))); (case aL => have := LMc43.out; omega); intro v274 w48 ho hb hg hat; rw [← Ny273.out] at ho; have n0_ := Aside0.mk (blk_grown (g := gb265) (o := .cells #[.int .i64 2, .string (a0.extract (x6_1 : Int).toNat ((wrap64 (x6_1 + t271)) : Int).toNat), .int .i64 x6_1] 44 (0, 0)) (by (with_reducible repeat (first | refine blk_drewN ?_ _ | refine blk_drew ?_ | refine blk_alloc ?_ _)); refine blk_put (cs := #[.int .i64 2, .string (⟨#[]⟩ : ByteArray), .int .i64 x6_1]) ?_ 1 _ rfl; (with_reducible repeat (first | refine blk_drewN ?_ _ | refine blk_drew ?_ | refine blk_alloc ?_ _)); exact BK265.out) hg (Kd.R_away HO_5.out (fun _ hk => hk.2))); have n1_ := Aside0.mk (hb); have n2_ := Aside0.mk (ho); clear BK265; clear HB; clear HO_5; have BK265 := n0_; have HB := n1_; have HO275 := n2_; clear n0_ n1_ n2_; clear ho hb hg hat))
                              repeat (go_step3; go_wp2_with (first | ((with_reducible refine gate_callee (f := 45) rfl ?_); refine goesT (some 22) Tryd.func45 #[.string (a0.extract (x6_1 : Int).toNat a0.size), .string (⟨#[45, 45]⟩ : ByteArray)] ?_; (with_reducible refine (strings_HasPrefix.calls (a0.extract (x6_1 : Int).toNat a0.size) (⟨#[45, 45]⟩ : ByteArray) false _ A6.out).mono ?_); rintro e w' ⟨rfl, ⟨nd, rfl⟩⟩; refine ⟨_, rfl, ?_⟩; (try (rw [drewN_self wr]; generalize hq_ : World.drewN wr _ = wr; have n0_ : Aside0 (Kd.R k44 44 wr w.heap.size (fun _ => True) u5 x5_1) := ⟨by rw [← hq_]; exact (by (with_reducible repeat (first | apply Kd.R_alloc | apply Kd.R_drewN | apply Kd.R_drew)); exact HO_5.out)⟩; have n1_ : Aside0 (Below w.heap.size w wr) := ⟨by rw [← hq_]; exact (hbT HB.out)⟩; clear HO_5 HB hq_; have HO_5 := n0_; have HB := n1_; clear n0_ n1_))) | ((with_reducible refine gate_dst (N := 7) rfl ?_); refine box_event ?hg (N := 7) ?hd (cs := #[.int .i64 0, .string (⟨#[]⟩ : ByteArray), .int .i64 0]) (t := 44) ?hr ?_; (case hd => rfl); (case hg => rfl); (case hr => first | (go_simp; done) | (go_simp; rfl)); intro gb265 hg w44 hbox hb; have BK265 := Aside0.mk hbox; have GW265 := geA hg HB; have GE265 := geA hg HB; replace HO_5 := Aside0.mk (Kd.R_below (Kd.R_elderB (by (with_reducible repeat (first | apply Kd.R_alloc | apply Kd.R_drewN | apply Kd.R_drew)); exact HO_5.out) gb265 (Nat.le_of_eq hg.symm)) hb); replace HB := bsA HB hb; clear hb hbox hg; have hcz45_0 : w44.cell? ⟨gb265, 0, none⟩ = some (.int .i64 0) := (blk_cell BK265.out 0).trans rfl; have hcz45_1 : w44.cell? ⟨gb265, 1, none⟩ = some (.string (⟨#[]⟩ : ByteArray)) := (blk_cell BK265.out 1).trans rfl; have hcz45_2 : w44.cell? ⟨gb265, 2, none⟩ = some (.int .i64 0) := (blk_cell BK265.out 2).trans rfl; have hfz45_0 := blk_frozen BK265.out 0; have hfz45_1 := blk_frozen BK265.out 1; have hfz45_2 := blk_frozen BK265.out 2; have p12 : 0 ≤ (x6_1 : Int) := of_decide_eq_true (by first | (with_reducible assumption) | assumption); have q12 : x6_1 < (a0.size : Int) := of_decide_eq_true (by first | (with_reducible assumption) | assumption); have hx12 := bt_at a0 x6_1; replace p12 := eq_true p12; replace q12 := eq_true q12) | ((with_reducible refine gate_callee (f := 46) rfl ?_); refine goesT (some 40) Tryd.func46 #[.int .u8 (bt a0 x6_1)] ?_; (with_reducible refine (token_begins.calls k1 (bt a0 x6_1) t266 _ A13.out).mono ?_); rintro e w' ⟨rfl, ⟨nd, rfl⟩⟩; refine ⟨_, rfl, ?_⟩) | ((with_reducible refine gate_callee (f := 47) rfl ?_); refine goesT (some 61) Tryd.func47 #[.string (a0.extract (x6_1 : Int).toNat a0.size), (.func (.func 48) #[] #[])] ?_; (with_reducible refine (token_run.calls k1 (a0.extract (x6_1 : Int).toNat a0.size) (.func (.func 48) #[] #[]) t271 _ A34.out).mono ?_); rintro e w' ⟨rfl, ⟨nd, rfl⟩⟩; refine ⟨_, rfl, ?_⟩) | ((with_reducible refine gate_callee (f := 49) rfl ?_); refine goesT (some 69) Tryd.func49 #[.string (a0.extract (x6_1 : Int).toNat ((wrap64 (x6_1 + t271)) : Int).toNat)] ?_; (with_reducible refine (token_isInt.calls (a0.extract (x6_1 : Int).toNat ((wrap64 (x6_1 + t271)) : Int).toNat) true _ ?side1 A38.out).mono ?_); (case side1 => first | (with_reducible exact HL_LErr) | exact ⟨LErr.below HL_LErr.out (hbT HB.out)⟩); rintro e w46 ⟨rfl, hb⟩; refine ⟨_, rfl, ?_⟩; replace HO_5 := Aside0.mk (Kd.R_below (by (with_reducible repeat (first | apply Kd.R_alloc | apply Kd.R_drewN | apply Kd.R_drew)); exact (Kd.R_mono (Kd.R_far (p := ⟨gb265, 0, none⟩) (Kd.R_far (p := ⟨gb265, 2, none⟩) (Kd.R_far (p := ⟨gb265, 1, none⟩) (Kd.R_far (p := ⟨gb265, 0, none⟩) (Kd.R_mono HO_5.out (fun k_ hk => (⟨hk, hk.2⟩ : _ ∧ k_ ≠ gb265))) (fun _ hk => hk.2) (.int .i64 0)) (fun _ hk => hk.2) (.string (⟨#[]⟩ : ByteArray))) (fun _ hk => hk.2) (.int .i64 x6_1)) (fun _ hk => hk.2) (.int .i64 2)) (fun _ h_ => h_.1))) hb); replace BK265 := Aside0.mk (blk_below (g := gb265) (o := .cells #[.int .i64 2, .string (⟨#[]⟩ : ByteArray), .int .i64 x6_1] 44 (0, 0)) (by (with_reducible repeat (first | refine blk_drewN ?_ _ | refine blk_drew ?_ | refine blk_alloc ?_ _)); refine blk_put (cs := #[.int .i64 0, .string (⟨#[]⟩ : ByteArray), .int .i64 x6_1]) ?_ 0 _ rfl; (with_reducible repeat (first | refine blk_drewN ?_ _ | refine blk_drew ?_ | refine blk_alloc ?_ _)); refine blk_put (cs := #[.int .i64 0, .string (⟨#[]⟩ : ByteArray), .int .i64 0]) ?_ 2 _ rfl; (with_reducible repeat (first | refine blk_drewN ?_ _ | refine blk_drew ?_ | refine blk_alloc ?_ _)); refine blk_put (cs := #[.int .i64 0, .string (⟨#[]⟩ : ByteArray), .int .i64 0]) ?_ 1 _ rfl; (with_reducible repeat (first | refine blk_drewN ?_ _ | refine blk_drew ?_ | refine blk_alloc ?_ _)); refine blk_put (cs := #[.int .i64 0, .string (⟨#[]⟩ : ByteArray), .int .i64 0]) ?_ 0 _ rfl; (with_reducible repeat (first | refine blk_drewN ?_ _ | refine blk_drew ?_ | refine blk_alloc ?_ _)); exact BK265.out) hb); replace HB := bsA HB hb; (try clear hb); (try clear hb2); (try clear hk); (try clear hi); have hcz47_0 : w46.cell? ⟨gb265, 0, none⟩ = some (.int .i64 2) := (blk_cell BK265.out 0).trans rfl; have hcz47_1 : w46.cell? ⟨gb265, 1, none⟩ = some (.string (⟨#[]⟩ : ByteArray)) := (blk_cell BK265.out 1).trans rfl; have hcz47_2 : w46.cell? ⟨gb265, 2, none⟩ = some (.int .i64 x6_1) := (blk_cell BK265.out 2).trans rfl; have hfz47_0 := blk_frozen BK265.out 0; have hfz47_1 := blk_frozen BK265.out 1; have hfz47_2 := blk_frozen BK265.out 2) | ((with_reducible refine gate_builtin (b := .append) (xs := #[.tmp 106, .tmp 108]) rfl ?_); at_builtin; refine Kd.R_append k44 (w0 := w) w.heap.size rfl (.tmp 106) (.tmp 108) 40 44 (.agg #[(.int .i64 0), (.string ⟨#[]⟩), (.int .i64 0)]) 32 rfl Tryd.underlying40 info44 rfl (by decide) (by omega) u5 x5_1 (⟨2, a0.extract (x6_1 : Int).toNat ((wrap64 (x6_1 + t271)) : Int).toNat, x6_1⟩ : S44) [.int .i64 2, .string (a0.extract (x6_1 : Int).toNat ((wrap64 (x6_1 + t271)) : Int).toNat), .int .i64 x6_1] (fun k_ => k_ ≠ gb265) (fun _ => False) rfl (by first | (go_simp; done) | (go_simp; rfl)) ?aP (fun _ hk => hk.elim) ?aF ?aO ?aB ?aS ?aL ?_; (case aP => exact k44_mkM _ _ _ (⟨2, a0.extract (x6_1 : Int).toNat ((wrap64 (x6_1 + t271)) : Int).toNat, x6_1⟩ : S44)); (case aB => exact (hbT HB.out)); (case aF => exact (fun k_ hk => Kd.freshB (g := gb265) (o := .cells #[.int .i64 2, .string (a0.extract (x6_1 : Int).toNat ((wrap64 (x6_1 + t271)) : Int).toNat), .int .i64 x6_1] 44 (0, 0)) (by (with_reducible repeat (first | refine blk_drewN ?_ _ | refine blk_drew ?_ | refine blk_alloc ?_ _)); refine blk_put (cs := #[.int .i64 2, .string (⟨#[]⟩ : ByteArray), .int .i64 x6_1]) ?_ 1 _ rfl; (with_reducible repeat (first | refine blk_drewN ?_ _ | refine blk_drew ?_ | refine blk_alloc ?_ _)); exact BK265.out) k_ hk)); (case aO => exact (by (with_reducible repeat (first | apply Kd.R_alloc | apply Kd.R_drewN | apply Kd.R_drew)); exact Kd.R_mono (Kd.R_far (p := ⟨gb265, 1, none⟩) (Kd.R_mono HO_5.out (fun k_ hk => (⟨hk, hk.2⟩ : _ ∧ k_ ≠ gb265))) (fun _ hk => hk.2) (.string (a0.extract (x6_1 : Int).toNat ((wrap64 (x6_1 + t271)) : Int).toNat))) (fun _ hk => hk.1.2))); (case aS => exact (below_size (hbT HB.out))); (case aL => have := LMc43.out; omega); intro v274 w48 ho hb hg hat; rw [← Ny273.out] at ho; have n0_ := Aside0.mk (blk_grown (g := gb265) (o := .cells #[.int .i64 2, .string (a0.extract (x6_1 : Int).toNat ((wrap64 (x6_1 + t271)) : Int).toNat), .int .i64 x6_1] 44 (0, 0)) (by (with_reducible repeat (first | refine blk_drewN ?_ _ | refine blk_drew ?_ | refine blk_alloc ?_ _)); refine blk_put (cs := #[.int .i64 2, .string (⟨#[]⟩ : ByteArray), .int .i64 x6_1]) ?_ 1 _ rfl; (with_reducible repeat (first | refine blk_drewN ?_ _ | refine blk_drew ?_ | refine blk_alloc ?_ _)); exact BK265.out) hg (Kd.R_away HO_5.out (fun _ hk => hk.2))); have n1_ := Aside0.mk (hb); have n2_ := Aside0.mk (ho); clear BK265; clear HB; clear HO_5; have BK265 := n0_; have HB := n1_; have HO275 := n2_; clear n0_ n1_ n2_; clear ho hb hg hat)))
                              go_roundg k1
                              case measure => have := HK1.out; omega
                              case rel => exact ⟨(y273), (wrap64 (x6_1 + t271)), (by first | rfl | (simp; done) | (simp [*]; done) | (simp; unfold wrap64; omega) | (congr 1; (try rw [Bool.eq_iff_iff]); simp [List.isEmpty_iff]; done)), H', ⟨by have := HK1.out; omega⟩, ⟨by (with_reducible repeat (first | apply Kd.R_alloc | apply Kd.R_drewN | apply Kd.R_drew)); exact Kd.R_mono HO275.out (fun _ hk => trivial)⟩, ⟨hbT HB.out⟩⟩
                            · rw [if_neg c43] at H
                              exact absurd H (by simp)
                          · replace c39 := Bool.eq_false_iff.mpr c39
                            subst c39
                            have H1 : (some (([] : List (S44)), x6_1, 51)) = some (r1, r2, r3) := by rw [if_neg (show ¬ (false = true) by decide)] at H; exact H
                            clear H
                            have H := H1
                            clear H1
                            simp only [Option.some.injEq, Prod.mk.injEq] at H
                            obtain ⟨rfl, rfl, rfl⟩ := H
                            go_wp2_with (first | ((with_reducible refine gate_callee (f := 45) rfl ?_); refine goesT (some 22) Tryd.func45 #[.string (a0.extract (x6_1 : Int).toNat a0.size), .string (⟨#[45, 45]⟩ : ByteArray)] ?_; (with_reducible refine (strings_HasPrefix.calls (a0.extract (x6_1 : Int).toNat a0.size) (⟨#[45, 45]⟩ : ByteArray) false _ A6.out).mono ?_); rintro e w' ⟨rfl, ⟨nd, rfl⟩⟩; refine ⟨_, rfl, ?_⟩; (try (rw [drewN_self wr]; generalize hq_ : World.drewN wr _ = wr; have n0_ : Aside0 (Kd.R k44 44 wr w.heap.size (fun _ => True) u5 x5_1) := ⟨by rw [← hq_]; exact (by (with_reducible repeat (first | apply Kd.R_alloc | apply Kd.R_drewN | apply Kd.R_drew)); exact HO_5.out)⟩; have n1_ : Aside0 (Below w.heap.size w wr) := ⟨by rw [← hq_]; exact (hbT HB.out)⟩; clear HO_5 HB hq_; have HO_5 := n0_; have HB := n1_; clear n0_ n1_))) | ((with_reducible refine gate_dst (N := 7) rfl ?_); refine box_event ?hg (N := 7) ?hd (cs := #[.int .i64 0, .string (⟨#[]⟩ : ByteArray), .int .i64 0]) (t := 44) ?hr ?_; (case hd => rfl); (case hg => rfl); (case hr => first | (go_simp; done) | (go_simp; rfl)); intro gb265 hg w49 hbox hb; have BK265 := Aside0.mk hbox; have GW265 := geA hg HB; have GE265 := geA hg HB; replace HO_5 := Aside0.mk (Kd.R_below (Kd.R_elderB (by (with_reducible repeat (first | apply Kd.R_alloc | apply Kd.R_drewN | apply Kd.R_drew)); exact HO_5.out) gb265 (Nat.le_of_eq hg.symm)) hb); replace HB := bsA HB hb; clear hb hbox hg; have hcz50_0 : w49.cell? ⟨gb265, 0, none⟩ = some (.int .i64 0) := (blk_cell BK265.out 0).trans rfl; have hcz50_1 : w49.cell? ⟨gb265, 1, none⟩ = some (.string (⟨#[]⟩ : ByteArray)) := (blk_cell BK265.out 1).trans rfl; have hcz50_2 : w49.cell? ⟨gb265, 2, none⟩ = some (.int .i64 0) := (blk_cell BK265.out 2).trans rfl; have hfz50_0 := blk_frozen BK265.out 0; have hfz50_1 := blk_frozen BK265.out 1; have hfz50_2 := blk_frozen BK265.out 2; have p12 : 0 ≤ (x6_1 : Int) := of_decide_eq_true (by first | (with_reducible assumption) | assumption); have q12 : x6_1 < (a0.size : Int) := of_decide_eq_true (by first | (with_reducible assumption) | assumption); have hx12 := bt_at a0 x6_1; replace p12 := eq_true p12; replace q12 := eq_true q12) | ((with_reducible refine gate_callee (f := 46) rfl ?_); refine goesT (some 40) Tryd.func46 #[.int .u8 (bt a0 x6_1)] ?_; (with_reducible refine (token_begins.calls k1 (bt a0 x6_1) t266 _ A13.out).mono ?_); rintro e w' ⟨rfl, ⟨nd, rfl⟩⟩; refine ⟨_, rfl, ?_⟩) | ((with_reducible refine gate_callee (f := 47) rfl ?_); refine goesT (some 61) Tryd.func47 #[.string (a0.extract (x6_1 : Int).toNat a0.size), (.func (.func 48) #[] #[])] ?_; (with_reducible refine (token_run.calls k1 (a0.extract (x6_1 : Int).toNat a0.size) (.func (.func 48) #[] #[]) t271 _ A34.out).mono ?_); rintro e w' ⟨rfl, ⟨nd, rfl⟩⟩; refine ⟨_, rfl, ?_⟩) | ((with_reducible refine gate_callee (f := 49) rfl ?_); refine goesT (some 69) Tryd.func49 #[.string (a0.extract (x6_1 : Int).toNat ((wrap64 (x6_1 + t271)) : Int).toNat)] ?_; (with_reducible refine (token_isInt.calls (a0.extract (x6_1 : Int).toNat ((wrap64 (x6_1 + t271)) : Int).toNat) false _ ?side1 A38.out).mono ?_); (case side1 => first | (with_reducible exact HL_LErr) | exact ⟨LErr.below HL_LErr.out (hbT HB.out)⟩); rintro e w51 ⟨rfl, hb⟩; refine ⟨_, rfl, ?_⟩; replace HO_5 := Aside0.mk (Kd.R_below (by (with_reducible repeat (first | apply Kd.R_alloc | apply Kd.R_drewN | apply Kd.R_drew)); exact (Kd.R_mono (Kd.R_far (p := ⟨gb265, 0, none⟩) (Kd.R_far (p := ⟨gb265, 2, none⟩) (Kd.R_far (p := ⟨gb265, 1, none⟩) (Kd.R_far (p := ⟨gb265, 0, none⟩) (Kd.R_mono HO_5.out (fun k_ hk => (⟨hk, hk.2⟩ : _ ∧ k_ ≠ gb265))) (fun _ hk => hk.2) (.int .i64 0)) (fun _ hk => hk.2) (.string (⟨#[]⟩ : ByteArray))) (fun _ hk => hk.2) (.int .i64 x6_1)) (fun _ hk => hk.2) (.int .i64 2)) (fun _ h_ => h_.1))) hb); replace BK265 := Aside0.mk (blk_below (g := gb265) (o := .cells #[.int .i64 2, .string (⟨#[]⟩ : ByteArray), .int .i64 x6_1] 44 (0, 0)) (by (with_reducible repeat (first | refine blk_drewN ?_ _ | refine blk_drew ?_ | refine blk_alloc ?_ _)); refine blk_put (cs := #[.int .i64 0, .string (⟨#[]⟩ : ByteArray), .int .i64 x6_1]) ?_ 0 _ rfl; (with_reducible repeat (first | refine blk_drewN ?_ _ | refine blk_drew ?_ | refine blk_alloc ?_ _)); refine blk_put (cs := #[.int .i64 0, .string (⟨#[]⟩ : ByteArray), .int .i64 0]) ?_ 2 _ rfl; (with_reducible repeat (first | refine blk_drewN ?_ _ | refine blk_drew ?_ | refine blk_alloc ?_ _)); refine blk_put (cs := #[.int .i64 0, .string (⟨#[]⟩ : ByteArray), .int .i64 0]) ?_ 1 _ rfl; (with_reducible repeat (first | refine blk_drewN ?_ _ | refine blk_drew ?_ | refine blk_alloc ?_ _)); refine blk_put (cs := #[.int .i64 0, .string (⟨#[]⟩ : ByteArray), .int .i64 0]) ?_ 0 _ rfl; (with_reducible repeat (first | refine blk_drewN ?_ _ | refine blk_drew ?_ | refine blk_alloc ?_ _)); exact BK265.out) hb); replace HB := bsA HB hb; (try clear hb); (try clear hb2); (try clear hk); (try clear hi)))
                            repeat (go_step3; go_wp2_with (first | ((with_reducible refine gate_callee (f := 45) rfl ?_); refine goesT (some 22) Tryd.func45 #[.string (a0.extract (x6_1 : Int).toNat a0.size), .string (⟨#[45, 45]⟩ : ByteArray)] ?_; (with_reducible refine (strings_HasPrefix.calls (a0.extract (x6_1 : Int).toNat a0.size) (⟨#[45, 45]⟩ : ByteArray) false _ A6.out).mono ?_); rintro e w' ⟨rfl, ⟨nd, rfl⟩⟩; refine ⟨_, rfl, ?_⟩; (try (rw [drewN_self wr]; generalize hq_ : World.drewN wr _ = wr; have n0_ : Aside0 (Kd.R k44 44 wr w.heap.size (fun _ => True) u5 x5_1) := ⟨by rw [← hq_]; exact (by (with_reducible repeat (first | apply Kd.R_alloc | apply Kd.R_drewN | apply Kd.R_drew)); exact HO_5.out)⟩; have n1_ : Aside0 (Below w.heap.size w wr) := ⟨by rw [← hq_]; exact (hbT HB.out)⟩; clear HO_5 HB hq_; have HO_5 := n0_; have HB := n1_; clear n0_ n1_))) | ((with_reducible refine gate_dst (N := 7) rfl ?_); refine box_event ?hg (N := 7) ?hd (cs := #[.int .i64 0, .string (⟨#[]⟩ : ByteArray), .int .i64 0]) (t := 44) ?hr ?_; (case hd => rfl); (case hg => rfl); (case hr => first | (go_simp; done) | (go_simp; rfl)); intro gb265 hg w49 hbox hb; have BK265 := Aside0.mk hbox; have GW265 := geA hg HB; have GE265 := geA hg HB; replace HO_5 := Aside0.mk (Kd.R_below (Kd.R_elderB (by (with_reducible repeat (first | apply Kd.R_alloc | apply Kd.R_drewN | apply Kd.R_drew)); exact HO_5.out) gb265 (Nat.le_of_eq hg.symm)) hb); replace HB := bsA HB hb; clear hb hbox hg; have hcz50_0 : w49.cell? ⟨gb265, 0, none⟩ = some (.int .i64 0) := (blk_cell BK265.out 0).trans rfl; have hcz50_1 : w49.cell? ⟨gb265, 1, none⟩ = some (.string (⟨#[]⟩ : ByteArray)) := (blk_cell BK265.out 1).trans rfl; have hcz50_2 : w49.cell? ⟨gb265, 2, none⟩ = some (.int .i64 0) := (blk_cell BK265.out 2).trans rfl; have hfz50_0 := blk_frozen BK265.out 0; have hfz50_1 := blk_frozen BK265.out 1; have hfz50_2 := blk_frozen BK265.out 2; have p12 : 0 ≤ (x6_1 : Int) := of_decide_eq_true (by first | (with_reducible assumption) | assumption); have q12 : x6_1 < (a0.size : Int) := of_decide_eq_true (by first | (with_reducible assumption) | assumption); have hx12 := bt_at a0 x6_1; replace p12 := eq_true p12; replace q12 := eq_true q12) | ((with_reducible refine gate_callee (f := 46) rfl ?_); refine goesT (some 40) Tryd.func46 #[.int .u8 (bt a0 x6_1)] ?_; (with_reducible refine (token_begins.calls k1 (bt a0 x6_1) t266 _ A13.out).mono ?_); rintro e w' ⟨rfl, ⟨nd, rfl⟩⟩; refine ⟨_, rfl, ?_⟩) | ((with_reducible refine gate_callee (f := 47) rfl ?_); refine goesT (some 61) Tryd.func47 #[.string (a0.extract (x6_1 : Int).toNat a0.size), (.func (.func 48) #[] #[])] ?_; (with_reducible refine (token_run.calls k1 (a0.extract (x6_1 : Int).toNat a0.size) (.func (.func 48) #[] #[]) t271 _ A34.out).mono ?_); rintro e w' ⟨rfl, ⟨nd, rfl⟩⟩; refine ⟨_, rfl, ?_⟩) | ((with_reducible refine gate_callee (f := 49) rfl ?_); refine goesT (some 69) Tryd.func49 #[.string (a0.extract (x6_1 : Int).toNat ((wrap64 (x6_1 + t271)) : Int).toNat)] ?_; (with_reducible refine (token_isInt.calls (a0.extract (x6_1 : Int).toNat ((wrap64 (x6_1 + t271)) : Int).toNat) false _ ?side1 A38.out).mono ?_); (case side1 => first | (with_reducible exact HL_LErr) | exact ⟨LErr.below HL_LErr.out (hbT HB.out)⟩); rintro e w51 ⟨rfl, hb⟩; refine ⟨_, rfl, ?_⟩; replace HO_5 := Aside0.mk (Kd.R_below (by (with_reducible repeat (first | apply Kd.R_alloc | apply Kd.R_drewN | apply Kd.R_drew)); exact (Kd.R_mono (Kd.R_far (p := ⟨gb265, 0, none⟩) (Kd.R_far (p := ⟨gb265, 2, none⟩) (Kd.R_far (p := ⟨gb265, 1, none⟩) (Kd.R_far (p := ⟨gb265, 0, none⟩) (Kd.R_mono HO_5.out (fun k_ hk => (⟨hk, hk.2⟩ : _ ∧ k_ ≠ gb265))) (fun _ hk => hk.2) (.int .i64 0)) (fun _ hk => hk.2) (.string (⟨#[]⟩ : ByteArray))) (fun _ hk => hk.2) (.int .i64 x6_1)) (fun _ hk => hk.2) (.int .i64 2)) (fun _ h_ => h_.1))) hb); replace BK265 := Aside0.mk (blk_below (g := gb265) (o := .cells #[.int .i64 2, .string (⟨#[]⟩ : ByteArray), .int .i64 x6_1] 44 (0, 0)) (by (with_reducible repeat (first | refine blk_drewN ?_ _ | refine blk_drew ?_ | refine blk_alloc ?_ _)); refine blk_put (cs := #[.int .i64 0, .string (⟨#[]⟩ : ByteArray), .int .i64 x6_1]) ?_ 0 _ rfl; (with_reducible repeat (first | refine blk_drewN ?_ _ | refine blk_drew ?_ | refine blk_alloc ?_ _)); refine blk_put (cs := #[.int .i64 0, .string (⟨#[]⟩ : ByteArray), .int .i64 0]) ?_ 2 _ rfl; (with_reducible repeat (first | refine blk_drewN ?_ _ | refine blk_drew ?_ | refine blk_alloc ?_ _)); refine blk_put (cs := #[.int .i64 0, .string (⟨#[]⟩ : ByteArray), .int .i64 0]) ?_ 1 _ rfl; (with_reducible repeat (first | refine blk_drewN ?_ _ | refine blk_drew ?_ | refine blk_alloc ?_ _)); refine blk_put (cs := #[.int .i64 0, .string (⟨#[]⟩ : ByteArray), .int .i64 0]) ?_ 0 _ rfl; (with_reducible repeat (first | refine blk_drewN ?_ _ | refine blk_drew ?_ | refine blk_alloc ?_ _)); exact BK265.out) hb); replace HB := bsA HB hb; (try clear hb); (try clear hb2); (try clear hk); (try clear hi))))
                            try rw [Exit.noGoto_ret]
                            go_ret3
                            exact ⟨_, by first | rfl | (simp [errW_none, errW_some] <;> rfl) | (simp [*, errW_none, errW_some] <;> rfl), by first | exact Kd.R_nil _ _ _ _ _ | exact Kd.N_nil _ _ _ _ _ | exact Kd.V_nil _ _ _ _ _ | exact Kd.Q_nil _ _ _ _ _ | exact Kd.S_nil _ _ _ _ _, hbT HB.out⟩
                        · rw [if_neg c37] at H
                          exact absurd H (by simp)
                      · rw [if_neg c36] at H
                        exact absurd H (by simp)
                    · rw [if_neg c31] at H
                      have c31b0 : (t266 == 3) = false := beq_eq_false_iff_ne.mpr c31
                      have c31b1 : (t266 != 3) = true := bne_iff_ne.mpr c31
                      by_cases c52 : t266 = 4
                      · rw [if_pos c52] at H
                        have c52b0 : (t266 == 4) = true := beq_iff_eq.mpr c52
                        have c52b1 : (t266 != 4) = false := bne_eq_false_iff_eq.mpr c52
                        clear c52
                        replace H := Option.bind_eq_some_iff.mp H
                        obtain ⟨⟨t276, t277, t278⟩, A530, H⟩ := H
                        replace H : (if t278 = 0 then (if x5_1.length < 4398046511104 then (token_Scan.l0 k1 a0 (x5_1 ++ [(⟨3, t276, x6_1⟩ : S44)]) t277) else (none)) else (some (([] : List (S44)), t277, t278))) = some (r1, r2, r3) := H
                        have A53 := Aside0.mk A530
                        clear A530
                        by_cases c54 : t278 = 0
                        · rw [if_pos c54] at H
                          have c54b0 : (t278 == 0) = true := beq_iff_eq.mpr c54
                          have c54b1 : (t278 != 0) = false := bne_eq_false_iff_eq.mpr c54
                          clear c54
                          by_cases c55 : x5_1.length < 4398046511104
                          · rw [if_pos c55] at H
                            have LMc55 := Aside0.mk c55
                            clear c55
                            obtain ⟨y279, hy279⟩ : ∃ y_ : List (S44), y_ = (x5_1 ++ [(⟨3, t276, x6_1⟩ : S44)]) := ⟨_, rfl⟩
                            replace H : (token_Scan.l0 k1 a0 y279 t277) = some (r1, r2, r3) := by first | (rw [hy279]; with_reducible exact H) | (have H2_ := (Option.bind_some _ _).symm.trans H; rw [hy279]; with_reducible exact H2_) | (have H2_ := (Option.bind_some _ _).symm.trans H; with_reducible exact H2_) | with_reducible exact H | (rw [hy279]; exact H) | exact H
                            have Ny279 := Aside0.mk hy279
                            clear hy279
                            have H' := Aside0.mk H
                            clear H
                            go_wp2_with (first | ((with_reducible refine gate_callee (f := 45) rfl ?_); refine goesT (some 22) Tryd.func45 #[.string (a0.extract (x6_1 : Int).toNat a0.size), .string (⟨#[45, 45]⟩ : ByteArray)] ?_; (with_reducible refine (strings_HasPrefix.calls (a0.extract (x6_1 : Int).toNat a0.size) (⟨#[45, 45]⟩ : ByteArray) false _ A6.out).mono ?_); rintro e w' ⟨rfl, ⟨nd, rfl⟩⟩; refine ⟨_, rfl, ?_⟩; (try (rw [drewN_self wr]; generalize hq_ : World.drewN wr _ = wr; have n0_ : Aside0 (Kd.R k44 44 wr w.heap.size (fun _ => True) u5 x5_1) := ⟨by rw [← hq_]; exact (by (with_reducible repeat (first | apply Kd.R_alloc | apply Kd.R_drewN | apply Kd.R_drew)); exact HO_5.out)⟩; have n1_ : Aside0 (Below w.heap.size w wr) := ⟨by rw [← hq_]; exact (hbT HB.out)⟩; clear HO_5 HB hq_; have HO_5 := n0_; have HB := n1_; clear n0_ n1_))) | ((with_reducible refine gate_dst (N := 7) rfl ?_); refine box_event ?hg (N := 7) ?hd (cs := #[.int .i64 0, .string (⟨#[]⟩ : ByteArray), .int .i64 0]) (t := 44) ?hr ?_; (case hd => rfl); (case hg => rfl); (case hr => first | (go_simp; done) | (go_simp; rfl)); intro gb265 hg w56 hbox hb; have BK265 := Aside0.mk hbox; have GW265 := geA hg HB; have GE265 := geA hg HB; replace HO_5 := Aside0.mk (Kd.R_below (Kd.R_elderB (by (with_reducible repeat (first | apply Kd.R_alloc | apply Kd.R_drewN | apply Kd.R_drew)); exact HO_5.out) gb265 (Nat.le_of_eq hg.symm)) hb); replace HB := bsA HB hb; clear hb hbox hg; have hcz57_0 : w56.cell? ⟨gb265, 0, none⟩ = some (.int .i64 0) := (blk_cell BK265.out 0).trans rfl; have hcz57_1 : w56.cell? ⟨gb265, 1, none⟩ = some (.string (⟨#[]⟩ : ByteArray)) := (blk_cell BK265.out 1).trans rfl; have hcz57_2 : w56.cell? ⟨gb265, 2, none⟩ = some (.int .i64 0) := (blk_cell BK265.out 2).trans rfl; have hfz57_0 := blk_frozen BK265.out 0; have hfz57_1 := blk_frozen BK265.out 1; have hfz57_2 := blk_frozen BK265.out 2; have p12 : 0 ≤ (x6_1 : Int) := of_decide_eq_true (by first | (with_reducible assumption) | assumption); have q12 : x6_1 < (a0.size : Int) := of_decide_eq_true (by first | (with_reducible assumption) | assumption); have hx12 := bt_at a0 x6_1; replace p12 := eq_true p12; replace q12 := eq_true q12) | ((with_reducible refine gate_callee (f := 46) rfl ?_); refine goesT (some 40) Tryd.func46 #[.int .u8 (bt a0 x6_1)] ?_; (with_reducible refine (token_begins.calls k1 (bt a0 x6_1) t266 _ A13.out).mono ?_); rintro e w' ⟨rfl, ⟨nd, rfl⟩⟩; refine ⟨_, rfl, ?_⟩) | ((with_reducible refine gate_callee (f := 50) rfl ?_); refine goesT (some 77) Tryd.func50 #[.string a0, .int .i64 x6_1] ?_; (with_reducible refine (token_unquote.calls k1 a0 x6_1 t276 t277 t278 _ A53.out).mono ?_); rintro e w58 ⟨rfl, hb⟩; refine ⟨_, rfl, ?_⟩; replace HO_5 := Aside0.mk (Kd.R_below (by (with_reducible repeat (first | apply Kd.R_alloc | apply Kd.R_drewN | apply Kd.R_drew)); exact (Kd.R_mono (Kd.R_far (p := ⟨gb265, 2, none⟩) (Kd.R_far (p := ⟨gb265, 1, none⟩) (Kd.R_far (p := ⟨gb265, 0, none⟩) (Kd.R_mono HO_5.out (fun k_ hk => (⟨hk, hk.2⟩ : _ ∧ k_ ≠ gb265))) (fun _ hk => hk.2) (.int .i64 0)) (fun _ hk => hk.2) (.string (⟨#[]⟩ : ByteArray))) (fun _ hk => hk.2) (.int .i64 x6_1)) (fun _ h_ => h_.1))) hb); replace BK265 := Aside0.mk (blk_below (g := gb265) (o := .cells #[.int .i64 0, .string (⟨#[]⟩ : ByteArray), .int .i64 x6_1] 44 (0, 0)) (by (with_reducible repeat (first | refine blk_drewN ?_ _ | refine blk_drew ?_ | refine blk_alloc ?_ _)); refine blk_put (cs := #[.int .i64 0, .string (⟨#[]⟩ : ByteArray), .int .i64 0]) ?_ 2 _ rfl; (with_reducible repeat (first | refine blk_drewN ?_ _ | refine blk_drew ?_ | refine blk_alloc ?_ _)); refine blk_put (cs := #[.int .i64 0, .string (⟨#[]⟩ : ByteArray), .int .i64 0]) ?_ 1 _ rfl; (with_reducible repeat (first | refine blk_drewN ?_ _ | refine blk_drew ?_ | refine blk_alloc ?_ _)); refine blk_put (cs := #[.int .i64 0, .string (⟨#[]⟩ : ByteArray), .int .i64 0]) ?_ 0 _ rfl; (with_reducible repeat (first | refine blk_drewN ?_ _ | refine blk_drew ?_ | refine blk_alloc ?_ _)); exact BK265.out) hb); replace HB := bsA HB hb; (try clear hb); (try clear hb2); (try clear hk); (try clear hi)) | ((with_reducible refine gate_builtin (b := .append) (xs := #[.tmp 85, .tmp 89]) rfl ?_); at_builtin; refine Kd.R_append k44 (w0 := w) w.heap.size rfl (.tmp 85) (.tmp 89) 40 44 (.agg #[(.int .i64 0), (.string ⟨#[]⟩), (.int .i64 0)]) 32 rfl Tryd.underlying40 info44 rfl (by decide) (by omega) u5 x5_1 (⟨3, t276, x6_1⟩ : S44) [.int .i64 3, .string t276, .int .i64 x6_1] (fun k_ => k_ ≠ gb265) (fun _ => False) rfl rfl ?aP (fun _ hk => hk.elim) ?aF ?aO ?aB ?aS ?aL ?_; (case aP => exact k44_mkM _ _ _ (⟨3, t276, x6_1⟩ : S44)); (case aB => exact (hbT HB.out)); (case aF => exact (fun k_ hk => Kd.freshB (g := gb265) (o := .cells #[.int .i64 0, .string (⟨#[]⟩ : ByteArray), .int .i64 x6_1] 44 (0, 0)) (bkT BK265.out) k_ hk)); (case aO => exact (by (with_reducible repeat (first | apply Kd.R_alloc | apply Kd.R_drewN | apply Kd.R_drew)); exact Kd.R_mono HO_5.out (fun _ hk => hk.2))); (case aS => exact (below_size (hbT HB.out))); (case aL => have := LMc55.out; omega); intro v280 w59 ho hb hg hat; rw [← Ny279.out] at ho; have n0_ := Aside0.mk (blk_grown (g := gb265) (o := .cells #[.int .i64 0, .string (⟨#[]⟩ : ByteArray), .int .i64 x6_1] 44 (0, 0)) (bkT BK265.out) hg (Kd.R_away HO_5.out (fun _ hk => hk.2))); have n1_ := Aside0.mk (hb); have n2_ := Aside0.mk (ho); clear BK265; clear HB; clear HO_5; have BK265 := n0_; have HB := n1_; have HO281 := n2_; clear n0_ n1_ n2_; clear ho hb hg hat))
                            repeat (go_step3; go_wp2_with (first | ((with_reducible refine gate_callee (f := 45) rfl ?_); refine goesT (some 22) Tryd.func45 #[.string (a0.extract (x6_1 : Int).toNat a0.size), .string (⟨#[45, 45]⟩ : ByteArray)] ?_; (with_reducible refine (strings_HasPrefix.calls (a0.extract (x6_1 : Int).toNat a0.size) (⟨#[45, 45]⟩ : ByteArray) false _ A6.out).mono ?_); rintro e w' ⟨rfl, ⟨nd, rfl⟩⟩; refine ⟨_, rfl, ?_⟩; (try (rw [drewN_self wr]; generalize hq_ : World.drewN wr _ = wr; have n0_ : Aside0 (Kd.R k44 44 wr w.heap.size (fun _ => True) u5 x5_1) := ⟨by rw [← hq_]; exact (by (with_reducible repeat (first | apply Kd.R_alloc | apply Kd.R_drewN | apply Kd.R_drew)); exact HO_5.out)⟩; have n1_ : Aside0 (Below w.heap.size w wr) := ⟨by rw [← hq_]; exact (hbT HB.out)⟩; clear HO_5 HB hq_; have HO_5 := n0_; have HB := n1_; clear n0_ n1_))) | ((with_reducible refine gate_dst (N := 7) rfl ?_); refine box_event ?hg (N := 7) ?hd (cs := #[.int .i64 0, .string (⟨#[]⟩ : ByteArray), .int .i64 0]) (t := 44) ?hr ?_; (case hd => rfl); (case hg => rfl); (case hr => first | (go_simp; done) | (go_simp; rfl)); intro gb265 hg w56 hbox hb; have BK265 := Aside0.mk hbox; have GW265 := geA hg HB; have GE265 := geA hg HB; replace HO_5 := Aside0.mk (Kd.R_below (Kd.R_elderB (by (with_reducible repeat (first | apply Kd.R_alloc | apply Kd.R_drewN | apply Kd.R_drew)); exact HO_5.out) gb265 (Nat.le_of_eq hg.symm)) hb); replace HB := bsA HB hb; clear hb hbox hg; have hcz57_0 : w56.cell? ⟨gb265, 0, none⟩ = some (.int .i64 0) := (blk_cell BK265.out 0).trans rfl; have hcz57_1 : w56.cell? ⟨gb265, 1, none⟩ = some (.string (⟨#[]⟩ : ByteArray)) := (blk_cell BK265.out 1).trans rfl; have hcz57_2 : w56.cell? ⟨gb265, 2, none⟩ = some (.int .i64 0) := (blk_cell BK265.out 2).trans rfl; have hfz57_0 := blk_frozen BK265.out 0; have hfz57_1 := blk_frozen BK265.out 1; have hfz57_2 := blk_frozen BK265.out 2; have p12 : 0 ≤ (x6_1 : Int) := of_decide_eq_true (by first | (with_reducible assumption) | assumption); have q12 : x6_1 < (a0.size : Int) := of_decide_eq_true (by first | (with_reducible assumption) | assumption); have hx12 := bt_at a0 x6_1; replace p12 := eq_true p12; replace q12 := eq_true q12) | ((with_reducible refine gate_callee (f := 46) rfl ?_); refine goesT (some 40) Tryd.func46 #[.int .u8 (bt a0 x6_1)] ?_; (with_reducible refine (token_begins.calls k1 (bt a0 x6_1) t266 _ A13.out).mono ?_); rintro e w' ⟨rfl, ⟨nd, rfl⟩⟩; refine ⟨_, rfl, ?_⟩) | ((with_reducible refine gate_callee (f := 50) rfl ?_); refine goesT (some 77) Tryd.func50 #[.string a0, .int .i64 x6_1] ?_; (with_reducible refine (token_unquote.calls k1 a0 x6_1 t276 t277 t278 _ A53.out).mono ?_); rintro e w58 ⟨rfl, hb⟩; refine ⟨_, rfl, ?_⟩; replace HO_5 := Aside0.mk (Kd.R_below (by (with_reducible repeat (first | apply Kd.R_alloc | apply Kd.R_drewN | apply Kd.R_drew)); exact (Kd.R_mono (Kd.R_far (p := ⟨gb265, 2, none⟩) (Kd.R_far (p := ⟨gb265, 1, none⟩) (Kd.R_far (p := ⟨gb265, 0, none⟩) (Kd.R_mono HO_5.out (fun k_ hk => (⟨hk, hk.2⟩ : _ ∧ k_ ≠ gb265))) (fun _ hk => hk.2) (.int .i64 0)) (fun _ hk => hk.2) (.string (⟨#[]⟩ : ByteArray))) (fun _ hk => hk.2) (.int .i64 x6_1)) (fun _ h_ => h_.1))) hb); replace BK265 := Aside0.mk (blk_below (g := gb265) (o := .cells #[.int .i64 0, .string (⟨#[]⟩ : ByteArray), .int .i64 x6_1] 44 (0, 0)) (by (with_reducible repeat (first | refine blk_drewN ?_ _ | refine blk_drew ?_ | refine blk_alloc ?_ _)); refine blk_put (cs := #[.int .i64 0, .string (⟨#[]⟩ : ByteArray), .int .i64 0]) ?_ 2 _ rfl; (with_reducible repeat (first | refine blk_drewN ?_ _ | refine blk_drew ?_ | refine blk_alloc ?_ _)); refine blk_put (cs := #[.int .i64 0, .string (⟨#[]⟩ : ByteArray), .int .i64 0]) ?_ 1 _ rfl; (with_reducible repeat (first | refine blk_drewN ?_ _ | refine blk_drew ?_ | refine blk_alloc ?_ _)); refine blk_put (cs := #[.int .i64 0, .string (⟨#[]⟩ : ByteArray), .int .i64 0]) ?_ 0 _ rfl; (with_reducible repeat (first | refine blk_drewN ?_ _ | refine blk_drew ?_ | refine blk_alloc ?_ _)); exact BK265.out) hb); replace HB := bsA HB hb; (try clear hb); (try clear hb2); (try clear hk); (try clear hi)) | ((with_reducible refine gate_builtin (b := .append) (xs := #[.tmp 85, .tmp 89]) rfl ?_); at_builtin; refine Kd.R_append k44 (w0 := w) w.heap.size rfl (.tmp 85) (.tmp 89) 40 44 (.agg #[(.int .i64 0), (.string ⟨#[]⟩), (.int .i64 0)]) 32 rfl Tryd.underlying40 info44 rfl (by decide) (by omega) u5 x5_1 (⟨3, t276, x6_1⟩ : S44) [.int .i64 3, .string t276, .int .i64 x6_1] (fun k_ => k_ ≠ gb265) (fun _ => False) rfl rfl ?aP (fun _ hk => hk.elim) ?aF ?aO ?aB ?aS ?aL ?_; (case aP => exact k44_mkM _ _ _ (⟨3, t276, x6_1⟩ : S44)); (case aB => exact (hbT HB.out)); (case aF => exact (fun k_ hk => Kd.freshB (g := gb265) (o := .cells #[.int .i64 0, .string (⟨#[]⟩ : ByteArray), .int .i64 x6_1] 44 (0, 0)) (bkT BK265.out) k_ hk)); (case aO => exact (by (with_reducible repeat (first | apply Kd.R_alloc | apply Kd.R_drewN | apply Kd.R_drew)); exact Kd.R_mono HO_5.out (fun _ hk => hk.2))); (case aS => exact (below_size (hbT HB.out))); (case aL => have := LMc55.out; omega); intro v280 w59 ho hb hg hat; rw [← Ny279.out] at ho; have n0_ := Aside0.mk (blk_grown (g := gb265) (o := .cells #[.int .i64 0, .string (⟨#[]⟩ : ByteArray), .int .i64 x6_1] 44 (0, 0)) (bkT BK265.out) hg (Kd.R_away HO_5.out (fun _ hk => hk.2))); have n1_ := Aside0.mk (hb); have n2_ := Aside0.mk (ho); clear BK265; clear HB; clear HO_5; have BK265 := n0_; have HB := n1_; have HO281 := n2_; clear n0_ n1_ n2_; clear ho hb hg hat)))
                            go_roundg k1
                            case measure => have := HK1.out; omega
                            case rel => exact ⟨(y279), (t277), (by first | rfl | (simp; done) | (simp [*]; done) | (simp; unfold wrap64; omega) | (congr 1; (try rw [Bool.eq_iff_iff]); simp [List.isEmpty_iff]; done)), H', ⟨by have := HK1.out; omega⟩, ⟨by (with_reducible repeat (first | apply Kd.R_alloc | apply Kd.R_drewN | apply Kd.R_drew)); exact Kd.R_mono HO281.out (fun _ hk => trivial)⟩, ⟨hbT HB.out⟩⟩
                          · rw [if_neg c55] at H
                            exact absurd H (by simp)
                        · rw [if_neg c54] at H
                          have c54b0 : (t278 == 0) = false := beq_eq_false_iff_ne.mpr c54
                          have c54b1 : (t278 != 0) = true := bne_iff_ne.mpr c54
                          simp only [Option.some.injEq, Prod.mk.injEq] at H
                          obtain ⟨rfl, rfl, rfl⟩ := H
                          go_wp2_with (first | ((with_reducible refine gate_callee (f := 45) rfl ?_); refine goesT (some 22) Tryd.func45 #[.string (a0.extract (x6_1 : Int).toNat a0.size), .string (⟨#[45, 45]⟩ : ByteArray)] ?_; (with_reducible refine (strings_HasPrefix.calls (a0.extract (x6_1 : Int).toNat a0.size) (⟨#[45, 45]⟩ : ByteArray) false _ A6.out).mono ?_); rintro e w' ⟨rfl, ⟨nd, rfl⟩⟩; refine ⟨_, rfl, ?_⟩; (try (rw [drewN_self wr]; generalize hq_ : World.drewN wr _ = wr; have n0_ : Aside0 (Kd.R k44 44 wr w.heap.size (fun _ => True) u5 x5_1) := ⟨by rw [← hq_]; exact (by (with_reducible repeat (first | apply Kd.R_alloc | apply Kd.R_drewN | apply Kd.R_drew)); exact HO_5.out)⟩; have n1_ : Aside0 (Below w.heap.size w wr) := ⟨by rw [← hq_]; exact (hbT HB.out)⟩; clear HO_5 HB hq_; have HO_5 := n0_; have HB := n1_; clear n0_ n1_))) | ((with_reducible refine gate_dst (N := 7) rfl ?_); refine box_event ?hg (N := 7) ?hd (cs := #[.int .i64 0, .string (⟨#[]⟩ : ByteArray), .int .i64 0]) (t := 44) ?hr ?_; (case hd => rfl); (case hg => rfl); (case hr => first | (go_simp; done) | (go_simp; rfl)); intro gb265 hg w60 hbox hb; have BK265 := Aside0.mk hbox; have GW265 := geA hg HB; have GE265 := geA hg HB; replace HO_5 := Aside0.mk (Kd.R_below (Kd.R_elderB (by (with_reducible repeat (first | apply Kd.R_alloc | apply Kd.R_drewN | apply Kd.R_drew)); exact HO_5.out) gb265 (Nat.le_of_eq hg.symm)) hb); replace HB := bsA HB hb; clear hb hbox hg; have hcz61_0 : w60.cell? ⟨gb265, 0, none⟩ = some (.int .i64 0) := (blk_cell BK265.out 0).trans rfl; have hcz61_1 : w60.cell? ⟨gb265, 1, none⟩ = some (.string (⟨#[]⟩ : ByteArray)) := (blk_cell BK265.out 1).trans rfl; have hcz61_2 : w60.cell? ⟨gb265, 2, none⟩ = some (.int .i64 0) := (blk_cell BK265.out 2).trans rfl; have hfz61_0 := blk_frozen BK265.out 0; have hfz61_1 := blk_frozen BK265.out 1; have hfz61_2 := blk_frozen BK265.out 2; have p12 : 0 ≤ (x6_1 : Int) := of_decide_eq_true (by first | (with_reducible assumption) | assumption); have q12 : x6_1 < (a0.size : Int) := of_decide_eq_true (by first | (with_reducible assumption) | assumption); have hx12 := bt_at a0 x6_1; replace p12 := eq_true p12; replace q12 := eq_true q12) | ((with_reducible refine gate_callee (f := 46) rfl ?_); refine goesT (some 40) Tryd.func46 #[.int .u8 (bt a0 x6_1)] ?_; (with_reducible refine (token_begins.calls k1 (bt a0 x6_1) t266 _ A13.out).mono ?_); rintro e w' ⟨rfl, ⟨nd, rfl⟩⟩; refine ⟨_, rfl, ?_⟩) | ((with_reducible refine gate_callee (f := 50) rfl ?_); refine goesT (some 77) Tryd.func50 #[.string a0, .int .i64 x6_1] ?_; (with_reducible refine (token_unquote.calls k1 a0 x6_1 t276 t277 t278 _ A53.out).mono ?_); rintro e w62 ⟨rfl, hb⟩; refine ⟨_, rfl, ?_⟩; replace HO_5 := Aside0.mk (Kd.R_below (by (with_reducible repeat (first | apply Kd.R_alloc | apply Kd.R_drewN | apply Kd.R_drew)); exact (Kd.R_mono (Kd.R_far (p := ⟨gb265, 2, none⟩) (Kd.R_far (p := ⟨gb265, 1, none⟩) (Kd.R_far (p := ⟨gb265, 0, none⟩) (Kd.R_mono HO_5.out (fun k_ hk => (⟨hk, hk.2⟩ : _ ∧ k_ ≠ gb265))) (fun _ hk => hk.2) (.int .i64 0)) (fun _ hk => hk.2) (.string (⟨#[]⟩ : ByteArray))) (fun _ hk => hk.2) (.int .i64 x6_1)) (fun _ h_ => h_.1))) hb); replace BK265 := Aside0.mk (blk_below (g := gb265) (o := .cells #[.int .i64 0, .string (⟨#[]⟩ : ByteArray), .int .i64 x6_1] 44 (0, 0)) (by (with_reducible repeat (first | refine blk_drewN ?_ _ | refine blk_drew ?_ | refine blk_alloc ?_ _)); refine blk_put (cs := #[.int .i64 0, .string (⟨#[]⟩ : ByteArray), .int .i64 0]) ?_ 2 _ rfl; (with_reducible repeat (first | refine blk_drewN ?_ _ | refine blk_drew ?_ | refine blk_alloc ?_ _)); refine blk_put (cs := #[.int .i64 0, .string (⟨#[]⟩ : ByteArray), .int .i64 0]) ?_ 1 _ rfl; (with_reducible repeat (first | refine blk_drewN ?_ _ | refine blk_drew ?_ | refine blk_alloc ?_ _)); refine blk_put (cs := #[.int .i64 0, .string (⟨#[]⟩ : ByteArray), .int .i64 0]) ?_ 0 _ rfl; (with_reducible repeat (first | refine blk_drewN ?_ _ | refine blk_drew ?_ | refine blk_alloc ?_ _)); exact BK265.out) hb); replace HB := bsA HB hb; (try clear hb); (try clear hb2); (try clear hk); (try clear hi)))
                          repeat (go_step3; go_wp2_with (first | ((with_reducible refine gate_callee (f := 45) rfl ?_); refine goesT (some 22) Tryd.func45 #[.string (a0.extract (x6_1 : Int).toNat a0.size), .string (⟨#[45, 45]⟩ : ByteArray)] ?_; (with_reducible refine (strings_HasPrefix.calls (a0.extract (x6_1 : Int).toNat a0.size) (⟨#[45, 45]⟩ : ByteArray) false _ A6.out).mono ?_); rintro e w' ⟨rfl, ⟨nd, rfl⟩⟩; refine ⟨_, rfl, ?_⟩; (try (rw [drewN_self wr]; generalize hq_ : World.drewN wr _ = wr; have n0_ : Aside0 (Kd.R k44 44 wr w.heap.size (fun _ => True) u5 x5_1) := ⟨by rw [← hq_]; exact (by (with_reducible repeat (first | apply Kd.R_alloc | apply Kd.R_drewN | apply Kd.R_drew)); exact HO_5.out)⟩; have n1_ : Aside0 (Below w.heap.size w wr) := ⟨by rw [← hq_]; exact (hbT HB.out)⟩; clear HO_5 HB hq_; have HO_5 := n0_; have HB := n1_; clear n0_ n1_))) | ((with_reducible refine gate_dst (N := 7) rfl ?_); refine box_event ?hg (N := 7) ?hd (cs := #[.int .i64 0, .string (⟨#[]⟩ : ByteArray), .int .i64 0]) (t := 44) ?hr ?_; (case hd => rfl); (case hg => rfl); (case hr => first | (go_simp; done) | (go_simp; rfl)); intro gb265 hg w60 hbox hb; have BK265 := Aside0.mk hbox; have GW265 := geA hg HB; have GE265 := geA hg HB; replace HO_5 := Aside0.mk (Kd.R_below (Kd.R_elderB (by (with_reducible repeat (first | apply Kd.R_alloc | apply Kd.R_drewN | apply Kd.R_drew)); exact HO_5.out) gb265 (Nat.le_of_eq hg.symm)) hb); replace HB := bsA HB hb; clear hb hbox hg; have hcz61_0 : w60.cell? ⟨gb265, 0, none⟩ = some (.int .i64 0) := (blk_cell BK265.out 0).trans rfl; have hcz61_1 : w60.cell? ⟨gb265, 1, none⟩ = some (.string (⟨#[]⟩ : ByteArray)) := (blk_cell BK265.out 1).trans rfl; have hcz61_2 : w60.cell? ⟨gb265, 2, none⟩ = some (.int .i64 0) := (blk_cell BK265.out 2).trans rfl; have hfz61_0 := blk_frozen BK265.out 0; have hfz61_1 := blk_frozen BK265.out 1; have hfz61_2 := blk_frozen BK265.out 2; have p12 : 0 ≤ (x6_1 : Int) := of_decide_eq_true (by first | (with_reducible assumption) | assumption); have q12 : x6_1 < (a0.size : Int) := of_decide_eq_true (by first | (with_reducible assumption) | assumption); have hx12 := bt_at a0 x6_1; replace p12 := eq_true p12; replace q12 := eq_true q12) | ((with_reducible refine gate_callee (f := 46) rfl ?_); refine goesT (some 40) Tryd.func46 #[.int .u8 (bt a0 x6_1)] ?_; (with_reducible refine (token_begins.calls k1 (bt a0 x6_1) t266 _ A13.out).mono ?_); rintro e w' ⟨rfl, ⟨nd, rfl⟩⟩; refine ⟨_, rfl, ?_⟩) | ((with_reducible refine gate_callee (f := 50) rfl ?_); refine goesT (some 77) Tryd.func50 #[.string a0, .int .i64 x6_1] ?_; (with_reducible refine (token_unquote.calls k1 a0 x6_1 t276 t277 t278 _ A53.out).mono ?_); rintro e w62 ⟨rfl, hb⟩; refine ⟨_, rfl, ?_⟩; replace HO_5 := Aside0.mk (Kd.R_below (by (with_reducible repeat (first | apply Kd.R_alloc | apply Kd.R_drewN | apply Kd.R_drew)); exact (Kd.R_mono (Kd.R_far (p := ⟨gb265, 2, none⟩) (Kd.R_far (p := ⟨gb265, 1, none⟩) (Kd.R_far (p := ⟨gb265, 0, none⟩) (Kd.R_mono HO_5.out (fun k_ hk => (⟨hk, hk.2⟩ : _ ∧ k_ ≠ gb265))) (fun _ hk => hk.2) (.int .i64 0)) (fun _ hk => hk.2) (.string (⟨#[]⟩ : ByteArray))) (fun _ hk => hk.2) (.int .i64 x6_1)) (fun _ h_ => h_.1))) hb); replace BK265 := Aside0.mk (blk_below (g := gb265) (o := .cells #[.int .i64 0, .string (⟨#[]⟩ : ByteArray), .int .i64 x6_1] 44 (0, 0)) (by (with_reducible repeat (first | refine blk_drewN ?_ _ | refine blk_drew ?_ | refine blk_alloc ?_ _)); refine blk_put (cs := #[.int .i64 0, .string (⟨#[]⟩ : ByteArray), .int .i64 0]) ?_ 2 _ rfl; (with_reducible repeat (first | refine blk_drewN ?_ _ | refine blk_drew ?_ | refine blk_alloc ?_ _)); refine blk_put (cs := #[.int .i64 0, .string (⟨#[]⟩ : ByteArray), .int .i64 0]) ?_ 1 _ rfl; (with_reducible repeat (first | refine blk_drewN ?_ _ | refine blk_drew ?_ | refine blk_alloc ?_ _)); refine blk_put (cs := #[.int .i64 0, .string (⟨#[]⟩ : ByteArray), .int .i64 0]) ?_ 0 _ rfl; (with_reducible repeat (first | refine blk_drewN ?_ _ | refine blk_drew ?_ | refine blk_alloc ?_ _)); exact BK265.out) hb); replace HB := bsA HB hb; (try clear hb); (try clear hb2); (try clear hk); (try clear hi))))
                          try rw [Exit.noGoto_ret]
                          go_ret3
                          exact ⟨_, by first | rfl | (simp [errW_none, errW_some] <;> rfl) | (simp [*, errW_none, errW_some] <;> rfl), by first | exact Kd.R_nil _ _ _ _ _ | exact Kd.N_nil _ _ _ _ _ | exact Kd.V_nil _ _ _ _ _ | exact Kd.Q_nil _ _ _ _ _ | exact Kd.S_nil _ _ _ _ _, hbT HB.out⟩
                      · rw [if_neg c52] at H
                        have c52b0 : (t266 == 4) = false := beq_eq_false_iff_ne.mpr c52
                        have c52b1 : (t266 != 4) = true := bne_iff_ne.mpr c52
                        by_cases c63 : t266 = 5
                        · rw [if_pos c63] at H
                          have c63b0 : (t266 == 5) = true := beq_iff_eq.mpr c63
                          have c63b1 : (t266 != 5) = false := bne_eq_false_iff_eq.mpr c63
                          clear c63
                          have c64b0 := eq_true (of_decide_eq_true (by first | (with_reducible assumption) | assumption) : 0 ≤ x6_1)
                          have c65b0 := eq_true (of_decide_eq_true (by first | (with_reducible assumption) | assumption) : x6_1 ≤ (a0.size : Int))
                          replace H := Option.bind_eq_some_iff.mp H
                          obtain ⟨t282, A660, H⟩ := H
                          replace H : (if x6_1 ≤ (wrap64 (x6_1 + t282)) then (if (wrap64 (x6_1 + t282)) ≤ (a0.size : Int) then (if x5_1.length < 4398046511104 then (token_Scan.l0 k1 a0 (x5_1 ++ [(⟨4, a0.extract (x6_1 : Int).toNat ((wrap64 (x6_1 + t282)) : Int).toNat, x6_1⟩ : S44)]) (wrap64 (x6_1 + t282))) else (none)) else (none)) else (none)) = some (r1, r2, r3) := H
                          have A66 := Aside0.mk A660
                          clear A660
                          have c67b0 := eq_true (of_decide_eq_true (by first | (with_reducible assumption) | assumption) : 0 ≤ x6_1)
                          by_cases c68 : x6_1 ≤ (wrap64 (x6_1 + t282))
                          · rw [if_pos c68] at H
                            have c68b0 := eq_true c68
                            have c68b1 : decide (x6_1 ≤ (wrap64 (x6_1 + t282))) = true := decide_eq_true c68
                            by_cases c69 : (wrap64 (x6_1 + t282)) ≤ (a0.size : Int)
                            · rw [if_pos c69] at H
                              have c69b0 := eq_true c69
                              have c69b1 : decide ((wrap64 (x6_1 + t282)) ≤ (a0.size : Int)) = true := decide_eq_true c69
                              by_cases c70 : x5_1.length < 4398046511104
                              · rw [if_pos c70] at H
                                have LMc70 := Aside0.mk c70
                                clear c70
                                obtain ⟨y283, hy283⟩ : ∃ y_ : List (S44), y_ = (x5_1 ++ [(⟨4, a0.extract (x6_1 : Int).toNat ((wrap64 (x6_1 + t282)) : Int).toNat, x6_1⟩ : S44)]) := ⟨_, rfl⟩
                                replace H : (token_Scan.l0 k1 a0 y283 (wrap64 (x6_1 + t282))) = some (r1, r2, r3) := by first | (rw [hy283]; with_reducible exact H) | (have H2_ := (Option.bind_some _ _).symm.trans H; rw [hy283]; with_reducible exact H2_) | (have H2_ := (Option.bind_some _ _).symm.trans H; with_reducible exact H2_) | with_reducible exact H | (rw [hy283]; exact H) | exact H
                                have Ny283 := Aside0.mk hy283
                                clear hy283
                                have H' := Aside0.mk H
                                clear H
                                go_wp2_with (first | ((with_reducible refine gate_callee (f := 45) rfl ?_); refine goesT (some 22) Tryd.func45 #[.string (a0.extract (x6_1 : Int).toNat a0.size), .string (⟨#[45, 45]⟩ : ByteArray)] ?_; (with_reducible refine (strings_HasPrefix.calls (a0.extract (x6_1 : Int).toNat a0.size) (⟨#[45, 45]⟩ : ByteArray) false _ A6.out).mono ?_); rintro e w' ⟨rfl, ⟨nd, rfl⟩⟩; refine ⟨_, rfl, ?_⟩; (try (rw [drewN_self wr]; generalize hq_ : World.drewN wr _ = wr; have n0_ : Aside0 (Kd.R k44 44 wr w.heap.size (fun _ => True) u5 x5_1) := ⟨by rw [← hq_]; exact (by (with_reducible repeat (first | apply Kd.R_alloc | apply Kd.R_drewN | apply Kd.R_drew)); exact HO_5.out)⟩; have n1_ : Aside0 (Below w.heap.size w wr) := ⟨by rw [← hq_]; exact (hbT HB.out)⟩; clear HO_5 HB hq_; have HO_5 := n0_; have HB := n1_; clear n0_ n1_))) | ((with_reducible refine gate_dst (N := 7) rfl ?_); refine box_event ?hg (N := 7) ?hd (cs := #[.int .i64 0, .string (⟨#[]⟩ : ByteArray), .int .i64 0]) (t := 44) ?hr ?_; (case hd => rfl); (case hg => rfl); (case hr => first | (go_simp; done) | (go_simp; rfl)); intro gb265 hg w71 hbox hb; have BK265 := Aside0.mk hbox; have GW265 := geA hg HB; have GE265 := geA hg HB; replace HO_5 := Aside0.mk (Kd.R_below (Kd.R_elderB (by (with_reducible repeat (first | apply Kd.R_alloc | apply Kd.R_drewN | apply Kd.R_drew)); exact HO_5.out) gb265 (Nat.le_of_eq hg.symm)) hb); replace HB := bsA HB hb; clear hb hbox hg; have hcz72_0 : w71.cell? ⟨gb265, 0, none⟩ = some (.int .i64 0) := (blk_cell BK265.out 0).trans rfl; have hcz72_1 : w71.cell? ⟨gb265, 1, none⟩ = some (.string (⟨#[]⟩ : ByteArray)) := (blk_cell BK265.out 1).trans rfl; have hcz72_2 : w71.cell? ⟨gb265, 2, none⟩ = some (.int .i64 0) := (blk_cell BK265.out 2).trans rfl; have hfz72_0 := blk_frozen BK265.out 0; have hfz72_1 := blk_frozen BK265.out 1; have hfz72_2 := blk_frozen BK265.out 2; have p12 : 0 ≤ (x6_1 : Int) := of_decide_eq_true (by first | (with_reducible assumption) | assumption); have q12 : x6_1 < (a0.size : Int) := of_decide_eq_true (by first | (with_reducible assumption) | assumption); have hx12 := bt_at a0 x6_1; replace p12 := eq_true p12; replace q12 := eq_true q12) | ((with_reducible refine gate_callee (f := 46) rfl ?_); refine goesT (some 40) Tryd.func46 #[.int .u8 (bt a0 x6_1)] ?_; (with_reducible refine (token_begins.calls k1 (bt a0 x6_1) t266 _ A13.out).mono ?_); rintro e w' ⟨rfl, ⟨nd, rfl⟩⟩; refine ⟨_, rfl, ?_⟩) | ((with_reducible refine gate_callee (f := 51) rfl ?_); refine goesT (some 97) Tryd.func51 #[.string (a0.extract (x6_1 : Int).toNat a0.size)] ?_; (with_reducible refine (token_signAt.calls k1 (a0.extract (x6_1 : Int).toNat a0.size) t282 _ A66.out).mono ?_); rintro e w' ⟨rfl, ⟨nd, rfl⟩⟩; refine ⟨_, rfl, ?_⟩) | ((with_reducible refine gate_builtin (b := .append) (xs := #[.tmp 106, .tmp 108]) rfl ?_); at_builtin; refine Kd.R_append k44 (w0 := w) w.heap.size rfl (.tmp 106) (.tmp 108) 40 44 (.agg #[(.int .i64 0), (.string ⟨#[]⟩), (.int .i64 0)]) 32 rfl Tryd.underlying40 info44 rfl (by decide) (by omega) u5 x5_1 (⟨4, a0.extract (x6_1 : Int).toNat ((wrap64 (x6_1 + t282)) : Int).toNat, x6_1⟩ : S44) [.int .i64 4, .string (a0.extract (x6_1 : Int).toNat ((wrap64 (x6_1 + t282)) : Int).toNat), .int .i64 x6_1] (fun k_ => k_ ≠ gb265) (fun _ => False) rfl (by first | (go_simp; done) | (go_simp; rfl)) ?aP (fun _ hk => hk.elim) ?aF ?aO ?aB ?aS ?aL ?_; (case aP => exact k44_mkM _ _ _ (⟨4, a0.extract (x6_1 : Int).toNat ((wrap64 (x6_1 + t282)) : Int).toNat, x6_1⟩ : S44)); (case aB => exact (hbT HB.out)); (case aF => exact (fun k_ hk => Kd.freshB (g := gb265) (o := .cells #[.int .i64 4, .string (a0.extract (x6_1 : Int).toNat ((wrap64 (x6_1 + t282)) : Int).toNat), .int .i64 x6_1] 44 (0, 0)) (by (with_reducible repeat (first | refine blk_drewN ?_ _ | refine blk_drew ?_ | refine blk_alloc ?_ _)); refine blk_put (cs := #[.int .i64 4, .string (⟨#[]⟩ : ByteArray), .int .i64 x6_1]) ?_ 1 _ rfl; (with_reducible repeat (first | refine blk_drewN ?_ _ | refine blk_drew ?_ | refine blk_alloc ?_ _)); refine blk_put (cs := #[.int .i64 0, .string (⟨#[]⟩ : ByteArray), .int .i64 x6_1]) ?_ 0 _ rfl; (with_reducible repeat (first | refine blk_drewN ?_ _ | refine blk_drew ?_ | refine blk_alloc ?_ _)); refine blk_put (cs := #[.int .i64 0, .string (⟨#[]⟩ : ByteArray), .int .i64 0]) ?_ 2 _ rfl; (with_reducible repeat (first | refine blk_drewN ?_ _ | refine blk_drew ?_ | refine blk_alloc ?_ _)); refine blk_put (cs := #[.int .i64 0, .string (⟨#[]⟩ : ByteArray), .int .i64 0]) ?_ 1 _ rfl; (with_reducible repeat (first | refine blk_drewN ?_ _ | refine blk_drew ?_ | refine blk_alloc ?_ _)); refine blk_put (cs := #[.int .i64 0, .string (⟨#[]⟩ : ByteArray), .int .i64 0]) ?_ 0 _ rfl; (with_reducible repeat (first | refine blk_drewN ?_ _ | refine blk_drew ?_ | refine blk_alloc ?_ _)); exact BK265.out) k_ hk)); (case aO => exact (by (with_reducible repeat (first | apply Kd.R_alloc | apply Kd.R_drewN | apply Kd.R_drew)); exact Kd.R_mono (Kd.R_far (p := ⟨gb265, 1, none⟩) (Kd.R_far (p := ⟨gb265, 0, none⟩) (Kd.R_far (p := ⟨gb265, 2, none⟩) (Kd.R_far (p := ⟨gb265, 1, none⟩) (Kd.R_far (p := ⟨gb265, 0, none⟩) (Kd.R_mono HO_5.out (fun k_ hk => (⟨hk, hk.2⟩ : _ ∧ k_ ≠ gb265))) (fun _ hk => hk.2) (.int .i64 0)) (fun _ hk => hk.2) (.string (⟨#[]⟩ : ByteArray))) (fun _ hk => hk.2) (.int .i64 x6_1)) (fun _ hk => hk.2) (.int .i64 4)) (fun _ hk => hk.2) (.string (a0.extract (x6_1 : Int).toNat ((wrap64 (x6_1 + t282)) : Int).toNat))) (fun _ hk => hk.1.2))); (case aS => exact (below_size (hbT HB.out))); (case aL => have := LMc70.out; omega); intro v284 w73 ho hb hg hat; rw [← Ny283.out] at ho; have n0_ := Aside0.mk (blk_grown (g := gb265) (o := .cells #[.int .i64 4, .string (a0.extract (x6_1 : Int).toNat ((wrap64 (x6_1 + t282)) : Int).toNat), .int .i64 x6_1] 44 (0, 0)) (by (with_reducible repeat (first | refine blk_drewN ?_ _ | refine blk_drew ?_ | refine blk_alloc ?_ _)); refine blk_put (cs := #[.int .i64 4, .string (⟨#[]⟩ : ByteArray), .int .i64 x6_1]) ?_ 1 _ rfl; (with_reducible repeat (first | refine blk_drewN ?_ _ | refine blk_drew ?_ | refine blk_alloc ?_ _)); refine blk_put (cs := #[.int .i64 0, .string (⟨#[]⟩ : ByteArray), .int .i64 x6_1]) ?_ 0 _ rfl; (with_reducible repeat (first | refine blk_drewN ?_ _ | refine blk_drew ?_ | refine blk_alloc ?_ _)); refine blk_put (cs := #[.int .i64 0, .string (⟨#[]⟩ : ByteArray), .int .i64 0]) ?_ 2 _ rfl; (with_reducible repeat (first | refine blk_drewN ?_ _ | refine blk_drew ?_ | refine blk_alloc ?_ _)); refine blk_put (cs := #[.int .i64 0, .string (⟨#[]⟩ : ByteArray), .int .i64 0]) ?_ 1 _ rfl; (with_reducible repeat (first | refine blk_drewN ?_ _ | refine blk_drew ?_ | refine blk_alloc ?_ _)); refine blk_put (cs := #[.int .i64 0, .string (⟨#[]⟩ : ByteArray), .int .i64 0]) ?_ 0 _ rfl; (with_reducible repeat (first | refine blk_drewN ?_ _ | refine blk_drew ?_ | refine blk_alloc ?_ _)); exact BK265.out) hg (Kd.R_away HO_5.out (fun _ hk => hk.2))); have n1_ := Aside0.mk (hb); have n2_ := Aside0.mk (ho); clear BK265; clear HB; clear HO_5; have BK265 := n0_; have HB := n1_; have HO285 := n2_; clear n0_ n1_ n2_; clear ho hb hg hat))
                                repeat (go_step3; go_wp2_with (first | ((with_reducible refine gate_callee (f := 45) rfl ?_); refine goesT (some 22) Tryd.func45 #[.string (a0.extract (x6_1 : Int).toNat a0.size), .string (⟨#[45, 45]⟩ : ByteArray)] ?_; (with_reducible refine (strings_HasPrefix.calls (a0.extract (x6_1 : Int).toNat a0.size) (⟨#[45, 45]⟩ : ByteArray) false _ A6.out).mono ?_); rintro e w' ⟨rfl, ⟨nd, rfl⟩⟩; refine ⟨_, rfl, ?_⟩; (try (rw [drewN_self wr]; generalize hq_ : World.drewN wr _ = wr; have n0_ : Aside0 (Kd.R k44 44 wr w.heap.size (fun _ => True) u5 x5_1) := ⟨by rw [← hq_]; exact (by (with_reducible repeat (first | apply Kd.R_alloc | apply Kd.R_drewN | apply Kd.R_drew)); exact HO_5.out)⟩; have n1_ : Aside0 (Below w.heap.size w wr) := ⟨by rw [← hq_]; exact (hbT HB.out)⟩; clear HO_5 HB hq_; have HO_5 := n0_; have HB := n1_; clear n0_ n1_))) | ((with_reducible refine gate_dst (N := 7) rfl ?_); refine box_event ?hg (N := 7) ?hd (cs := #[.int .i64 0, .string (⟨#[]⟩ : ByteArray), .int .i64 0]) (t := 44) ?hr ?_; (case hd => rfl); (case hg => rfl); (case hr => first | (go_simp; done) | (go_simp; rfl)); intro gb265 hg w71 hbox hb; have BK265 := Aside0.mk hbox; have GW265 := geA hg HB; have GE265 := geA hg HB; replace HO_5 := Aside0.mk (Kd.R_below (Kd.R_elderB (by (with_reducible repeat (first | apply Kd.R_alloc | apply Kd.R_drewN | apply Kd.R_drew)); exact HO_5.out) gb265 (Nat.le_of_eq hg.symm)) hb); replace HB := bsA HB hb; clear hb hbox hg; have hcz72_0 : w71.cell? ⟨gb265, 0, none⟩ = some (.int .i64 0) := (blk_cell BK265.out 0).trans rfl; have hcz72_1 : w71.cell? ⟨gb265, 1, none⟩ = some (.string (⟨#[]⟩ : ByteArray)) := (blk_cell BK265.out 1).trans rfl; have hcz72_2 : w71.cell? ⟨gb265, 2, none⟩ = some (.int .i64 0) := (blk_cell BK265.out 2).trans rfl; have hfz72_0 := blk_frozen BK265.out 0; have hfz72_1 := blk_frozen BK265.out 1; have hfz72_2 := blk_frozen BK265.out 2; have p12 : 0 ≤ (x6_1 : Int) := of_decide_eq_true (by first | (with_reducible assumption) | assumption); have q12 : x6_1 < (a0.size : Int) := of_decide_eq_true (by first | (with_reducible assumption) | assumption); have hx12 := bt_at a0 x6_1; replace p12 := eq_true p12; replace q12 := eq_true q12) | ((with_reducible refine gate_callee (f := 46) rfl ?_); refine goesT (some 40) Tryd.func46 #[.int .u8 (bt a0 x6_1)] ?_; (with_reducible refine (token_begins.calls k1 (bt a0 x6_1) t266 _ A13.out).mono ?_); rintro e w' ⟨rfl, ⟨nd, rfl⟩⟩; refine ⟨_, rfl, ?_⟩) | ((with_reducible refine gate_callee (f := 51) rfl ?_); refine goesT (some 97) Tryd.func51 #[.string (a0.extract (x6_1 : Int).toNat a0.size)] ?_; (with_reducible refine (token_signAt.calls k1 (a0.extract (x6_1 : Int).toNat a0.size) t282 _ A66.out).mono ?_); rintro e w' ⟨rfl, ⟨nd, rfl⟩⟩; refine ⟨_, rfl, ?_⟩) | ((with_reducible refine gate_builtin (b := .append) (xs := #[.tmp 106, .tmp 108]) rfl ?_); at_builtin; refine Kd.R_append k44 (w0 := w) w.heap.size rfl (.tmp 106) (.tmp 108) 40 44 (.agg #[(.int .i64 0), (.string ⟨#[]⟩), (.int .i64 0)]) 32 rfl Tryd.underlying40 info44 rfl (by decide) (by omega) u5 x5_1 (⟨4, a0.extract (x6_1 : Int).toNat ((wrap64 (x6_1 + t282)) : Int).toNat, x6_1⟩ : S44) [.int .i64 4, .string (a0.extract (x6_1 : Int).toNat ((wrap64 (x6_1 + t282)) : Int).toNat), .int .i64 x6_1] (fun k_ => k_ ≠ gb265) (fun _ => False) rfl (by first | (go_simp; done) | (go_simp; rfl)) ?aP (fun _ hk => hk.elim) ?aF ?aO ?aB ?aS ?aL ?_; (case aP => exact k44_mkM _ _ _ (⟨4, a0.extract (x6_1 : Int).toNat ((wrap64 (x6_1 + t282)) : Int).toNat, x6_1⟩ : S44)); (case aB => exact (hbT HB.out)); (case aF => exact (fun k_ hk => Kd.freshB (g := gb265) (o := .cells #[.int .i64 4, .string (a0.extract (x6_1 : Int).toNat ((wrap64 (x6_1 + t282)) : Int).toNat), .int .i64 x6_1] 44 (0, 0)) (by (with_reducible repeat (first | refine blk_drewN ?_ _ | refine blk_drew ?_ | refine blk_alloc ?_ _)); refine blk_put (cs := #[.int .i64 4, .string (⟨#[]⟩ : ByteArray), .int .i64 x6_1]) ?_ 1 _ rfl; (with_reducible repeat (first | refine blk_drewN ?_ _ | refine blk_drew ?_ | refine blk_alloc ?_ _)); refine blk_put (cs := #[.int .i64 0, .string (⟨#[]⟩ : ByteArray), .int .i64 x6_1]) ?_ 0 _ rfl; (with_reducible repeat (first | refine blk_drewN ?_ _ | refine blk_drew ?_ | refine blk_alloc ?_ _)); refine blk_put (cs := #[.int .i64 0, .string (⟨#[]⟩ : ByteArray), .int .i64 0]) ?_ 2 _ rfl; (with_reducible repeat (first | refine blk_drewN ?_ _ | refine blk_drew ?_ | refine blk_alloc ?_ _)); refine blk_put (cs := #[.int .i64 0, .string (⟨#[]⟩ : ByteArray), .int .i64 0]) ?_ 1 _ rfl; (with_reducible repeat (first | refine blk_drewN ?_ _ | refine blk_drew ?_ | refine blk_alloc ?_ _)); refine blk_put (cs := #[.int .i64 0, .string (⟨#[]⟩ : ByteArray), .int .i64 0]) ?_ 0 _ rfl; (with_reducible repeat (first | refine blk_drewN ?_ _ | refine blk_drew ?_ | refine blk_alloc ?_ _)); exact BK265.out) k_ hk)); (case aO => exact (by (with_reducible repeat (first | apply Kd.R_alloc | apply Kd.R_drewN | apply Kd.R_drew)); exact Kd.R_mono (Kd.R_far (p := ⟨gb265, 1, none⟩) (Kd.R_far (p := ⟨gb265, 0, none⟩) (Kd.R_far (p := ⟨gb265, 2, none⟩) (Kd.R_far (p := ⟨gb265, 1, none⟩) (Kd.R_far (p := ⟨gb265, 0, none⟩) (Kd.R_mono HO_5.out (fun k_ hk => (⟨hk, hk.2⟩ : _ ∧ k_ ≠ gb265))) (fun _ hk => hk.2) (.int .i64 0)) (fun _ hk => hk.2) (.string (⟨#[]⟩ : ByteArray))) (fun _ hk => hk.2) (.int .i64 x6_1)) (fun _ hk => hk.2) (.int .i64 4)) (fun _ hk => hk.2) (.string (a0.extract (x6_1 : Int).toNat ((wrap64 (x6_1 + t282)) : Int).toNat))) (fun _ hk => hk.1.2))); (case aS => exact (below_size (hbT HB.out))); (case aL => have := LMc70.out; omega); intro v284 w73 ho hb hg hat; rw [← Ny283.out] at ho; have n0_ := Aside0.mk (blk_grown (g := gb265) (o := .cells #[.int .i64 4, .string (a0.extract (x6_1 : Int).toNat ((wrap64 (x6_1 + t282)) : Int).toNat), .int .i64 x6_1] 44 (0, 0)) (by (with_reducible repeat (first | refine blk_drewN ?_ _ | refine blk_drew ?_ | refine blk_alloc ?_ _)); refine blk_put (cs := #[.int .i64 4, .string (⟨#[]⟩ : ByteArray), .int .i64 x6_1]) ?_ 1 _ rfl; (with_reducible repeat (first | refine blk_drewN ?_ _ | refine blk_drew ?_ | refine blk_alloc ?_ _)); refine blk_put (cs := #[.int .i64 0, .string (⟨#[]⟩ : ByteArray), .int .i64 x6_1]) ?_ 0 _ rfl; (with_reducible repeat (first | refine blk_drewN ?_ _ | refine blk_drew ?_ | refine blk_alloc ?_ _)); refine blk_put (cs := #[.int .i64 0, .string (⟨#[]⟩ : ByteArray), .int .i64 0]) ?_ 2 _ rfl; (with_reducible repeat (first | refine blk_drewN ?_ _ | refine blk_drew ?_ | refine blk_alloc ?_ _)); refine blk_put (cs := #[.int .i64 0, .string (⟨#[]⟩ : ByteArray), .int .i64 0]) ?_ 1 _ rfl; (with_reducible repeat (first | refine blk_drewN ?_ _ | refine blk_drew ?_ | refine blk_alloc ?_ _)); refine blk_put (cs := #[.int .i64 0, .string (⟨#[]⟩ : ByteArray), .int .i64 0]) ?_ 0 _ rfl; (with_reducible repeat (first | refine blk_drewN ?_ _ | refine blk_drew ?_ | refine blk_alloc ?_ _)); exact BK265.out) hg (Kd.R_away HO_5.out (fun _ hk => hk.2))); have n1_ := Aside0.mk (hb); have n2_ := Aside0.mk (ho); clear BK265; clear HB; clear HO_5; have BK265 := n0_; have HB := n1_; have HO285 := n2_; clear n0_ n1_ n2_; clear ho hb hg hat)))
                                go_roundg k1
                                case measure => have := HK1.out; omega
                                case rel => exact ⟨(y283), (wrap64 (x6_1 + t282)), (by first | rfl | (simp; done) | (simp [*]; done) | (simp; unfold wrap64; omega) | (congr 1; (try rw [Bool.eq_iff_iff]); simp [List.isEmpty_iff]; done)), H', ⟨by have := HK1.out; omega⟩, ⟨by (with_reducible repeat (first | apply Kd.R_alloc | apply Kd.R_drewN | apply Kd.R_drew)); exact Kd.R_mono HO285.out (fun _ hk => trivial)⟩, ⟨hbT HB.out⟩⟩
                              · rw [if_neg c70] at H
                                exact absurd H (by simp)
                            · rw [if_neg c69] at H
                              exact absurd H (by simp)
                          · rw [if_neg c68] at H
                            exact absurd H (by simp)
                        · rw [if_neg c63] at H
                          have c63b0 : (t266 == 5) = false := beq_eq_false_iff_ne.mpr c63
                          have c63b1 : (t266 != 5) = true := bne_iff_ne.mpr c63
                          simp only [Option.some.injEq, Prod.mk.injEq] at H
                          obtain ⟨rfl, rfl, rfl⟩ := H
                          go_wp2_with (first | ((with_reducible refine gate_callee (f := 45) rfl ?_); refine goesT (some 22) Tryd.func45 #[.string (a0.extract (x6_1 : Int).toNat a0.size), .string (⟨#[45, 45]⟩ : ByteArray)] ?_; (with_reducible refine (strings_HasPrefix.calls (a0.extract (x6_1 : Int).toNat a0.size) (⟨#[45, 45]⟩ : ByteArray) false _ A6.out).mono ?_); rintro e w' ⟨rfl, ⟨nd, rfl⟩⟩; refine ⟨_, rfl, ?_⟩; (try (rw [drewN_self wr]; generalize hq_ : World.drewN wr _ = wr; have n0_ : Aside0 (Kd.R k44 44 wr w.heap.size (fun _ => True) u5 x5_1) := ⟨by rw [← hq_]; exact (by (with_reducible repeat (first | apply Kd.R_alloc | apply Kd.R_drewN | apply Kd.R_drew)); exact HO_5.out)⟩; have n1_ : Aside0 (Below w.heap.size w wr) := ⟨by rw [← hq_]; exact (hbT HB.out)⟩; clear HO_5 HB hq_; have HO_5 := n0_; have HB := n1_; clear n0_ n1_))) | ((with_reducible refine gate_dst (N := 7) rfl ?_); refine box_event ?hg (N := 7) ?hd (cs := #[.int .i64 0, .string (⟨#[]⟩ : ByteArray), .int .i64 0]) (t := 44) ?hr ?_; (case hd => rfl); (case hg => rfl); (case hr => first | (go_simp; done) | (go_simp; rfl)); intro gb265 hg w74 hbox hb; have BK265 := Aside0.mk hbox; have GW265 := geA hg HB; have GE265 := geA hg HB; replace HO_5 := Aside0.mk (Kd.R_below (Kd.R_elderB (by (with_reducible repeat (first | apply Kd.R_alloc | apply Kd.R_drewN | apply Kd.R_drew)); exact HO_5.out) gb265 (Nat.le_of_eq hg.symm)) hb); replace HB := bsA HB hb; clear hb hbox hg; have hcz75_0 : w74.cell? ⟨gb265, 0, none⟩ = some (.int .i64 0) := (blk_cell BK265.out 0).trans rfl; have hcz75_1 : w74.cell? ⟨gb265, 1, none⟩ = some (.string (⟨#[]⟩ : ByteArray)) := (blk_cell BK265.out 1).trans rfl; have hcz75_2 : w74.cell? ⟨gb265, 2, none⟩ = some (.int .i64 0) := (blk_cell BK265.out 2).trans rfl; have hfz75_0 := blk_frozen BK265.out 0; have hfz75_1 := blk_frozen BK265.out 1; have hfz75_2 := blk_frozen BK265.out 2; have p12 : 0 ≤ (x6_1 : Int) := of_decide_eq_true (by first | (with_reducible assumption) | assumption); have q12 : x6_1 < (a0.size : Int) := of_decide_eq_true (by first | (with_reducible assumption) | assumption); have hx12 := bt_at a0 x6_1; replace p12 := eq_true p12; replace q12 := eq_true q12) | ((with_reducible refine gate_callee (f := 46) rfl ?_); refine goesT (some 40) Tryd.func46 #[.int .u8 (bt a0 x6_1)] ?_; (with_reducible refine (token_begins.calls k1 (bt a0 x6_1) t266 _ A13.out).mono ?_); rintro e w' ⟨rfl, ⟨nd, rfl⟩⟩; refine ⟨_, rfl, ?_⟩))
                          repeat (go_step3; go_wp2_with (first | ((with_reducible refine gate_callee (f := 45) rfl ?_); refine goesT (some 22) Tryd.func45 #[.string (a0.extract (x6_1 : Int).toNat a0.size), .string (⟨#[45, 45]⟩ : ByteArray)] ?_; (with_reducible refine (strings_HasPrefix.calls (a0.extract (x6_1 : Int).toNat a0.size) (⟨#[45, 45]⟩ : ByteArray) false _ A6.out).mono ?_); rintro e w' ⟨rfl, ⟨nd, rfl⟩⟩; refine ⟨_, rfl, ?_⟩; (try (rw [drewN_self wr]; generalize hq_ : World.drewN wr _ = wr; have n0_ : Aside0 (Kd.R k44 44 wr w.heap.size (fun _ => True) u5 x5_1) := ⟨by rw [← hq_]; exact (by (with_reducible repeat (first | apply Kd.R_alloc | apply Kd.R_drewN | apply Kd.R_drew)); exact HO_5.out)⟩; have n1_ : Aside0 (Below w.heap.size w wr) := ⟨by rw [← hq_]; exact (hbT HB.out)⟩; clear HO_5 HB hq_; have HO_5 := n0_; have HB := n1_; clear n0_ n1_))) | ((with_reducible refine gate_dst (N := 7) rfl ?_); refine box_event ?hg (N := 7) ?hd (cs := #[.int .i64 0, .string (⟨#[]⟩ : ByteArray), .int .i64 0]) (t := 44) ?hr ?_; (case hd => rfl); (case hg => rfl); (case hr => first | (go_simp; done) | (go_simp; rfl)); intro gb265 hg w74 hbox hb; have BK265 := Aside0.mk hbox; have GW265 := geA hg HB; have GE265 := geA hg HB; replace HO_5 := Aside0.mk (Kd.R_below (Kd.R_elderB (by (with_reducible repeat (first | apply Kd.R_alloc | apply Kd.R_drewN | apply Kd.R_drew)); exact HO_5.out) gb265 (Nat.le_of_eq hg.symm)) hb); replace HB := bsA HB hb; clear hb hbox hg; have hcz75_0 : w74.cell? ⟨gb265, 0, none⟩ = some (.int .i64 0) := (blk_cell BK265.out 0).trans rfl; have hcz75_1 : w74.cell? ⟨gb265, 1, none⟩ = some (.string (⟨#[]⟩ : ByteArray)) := (blk_cell BK265.out 1).trans rfl; have hcz75_2 : w74.cell? ⟨gb265, 2, none⟩ = some (.int .i64 0) := (blk_cell BK265.out 2).trans rfl; have hfz75_0 := blk_frozen BK265.out 0; have hfz75_1 := blk_frozen BK265.out 1; have hfz75_2 := blk_frozen BK265.out 2; have p12 : 0 ≤ (x6_1 : Int) := of_decide_eq_true (by first | (with_reducible assumption) | assumption); have q12 : x6_1 < (a0.size : Int) := of_decide_eq_true (by first | (with_reducible assumption) | assumption); have hx12 := bt_at a0 x6_1; replace p12 := eq_true p12; replace q12 := eq_true q12) | ((with_reducible refine gate_callee (f := 46) rfl ?_); refine goesT (some 40) Tryd.func46 #[.int .u8 (bt a0 x6_1)] ?_; (with_reducible refine (token_begins.calls k1 (bt a0 x6_1) t266 _ A13.out).mono ?_); rintro e w' ⟨rfl, ⟨nd, rfl⟩⟩; refine ⟨_, rfl, ?_⟩)))
                          try rw [Exit.noGoto_ret]
                          go_ret3
                          exact ⟨_, by first | rfl | (simp [errW_none, errW_some] <;> rfl) | (simp [*, errW_none, errW_some] <;> rfl), by first | exact Kd.R_nil _ _ _ _ _ | exact Kd.N_nil _ _ _ _ _ | exact Kd.V_nil _ _ _ _ _ | exact Kd.Q_nil _ _ _ _ _ | exact Kd.S_nil _ _ _ _ _, hbT HB.out⟩
            · rw [if_neg c5] at H
              exact absurd H (by simp)
          · rw [if_neg c4] at H
            exact absurd H (by simp)
        · rw [if_neg c3] at H
          have c3b0 : decide (x6_1 < (a0.size : Int)) = false := decide_eq_false c3
          clear c3
          by_cases c76 : x5_1.length < 4398046511104
          · rw [if_pos c76] at H
            have LMc76 := Aside0.mk c76
            clear c76
            obtain ⟨y261, hy261⟩ : ∃ y_ : List (S44), y_ = (x5_1 ++ [(⟨5, (⟨#[]⟩ : ByteArray), (a0.size : Int)⟩ : S44)]) := ⟨_, rfl⟩
            replace H : (some (y261, 0, 0)) = some (r1, r2, r3) := by first | (rw [hy261]; with_reducible exact H) | (have H2_ := (Option.bind_some _ _).symm.trans H; rw [hy261]; with_reducible exact H2_) | (have H2_ := (Option.bind_some _ _).symm.trans H; with_reducible exact H2_) | with_reducible exact H | (rw [hy261]; exact H) | exact H
            have Ny261 := Aside0.mk hy261
            clear hy261
            simp only [Option.some.injEq, Prod.mk.injEq] at H
            obtain ⟨rfl, rfl, rfl⟩ := H
            go_wp2_with (first | ((with_reducible refine gate_builtin (b := .append) (xs := #[.tmp 113, .tmp 117]) rfl ?_); at_builtin; refine Kd.R_append k44 (w0 := w) w.heap.size rfl (.tmp 113) (.tmp 117) 40 44 (.agg #[(.int .i64 0), (.string ⟨#[]⟩), (.int .i64 0)]) 32 rfl Tryd.underlying40 info44 rfl (by decide) (by omega) u5 x5_1 (⟨5, (⟨#[]⟩ : ByteArray), (a0.size : Int)⟩ : S44) [.int .i64 5, .string (⟨#[]⟩ : ByteArray), .int .i64 (a0.size : Int)] (fun _ => True) (fun _ => False) rfl rfl ?aP (fun _ hk => hk.elim) ?aF ?aO ?aB ?aS ?aL ?_; (case aP => exact k44_mkM _ _ _ (⟨5, (⟨#[]⟩ : ByteArray), (a0.size : Int)⟩ : S44)); (case aB => exact (hbT HB.out)); (case aF => exact (fun _ _ => trivial)); (case aO => exact (by (with_reducible repeat (first | apply Kd.R_alloc | apply Kd.R_drewN | apply Kd.R_drew)); exact HO_5.out)); (case aS => exact (below_size (hbT HB.out))); (case aL => have := LMc76.out; omega); intro v262 w77 ho hb hg hat; rw [← Ny261.out] at ho; have n0_ := Aside0.mk (hb); have n1_ := Aside0.mk (ho); clear HB; clear HO_5; have HB := n0_; have HO263 := n1_; clear n0_ n1_; clear ho hb hg hat))
            repeat (go_step3; go_wp2_with (first | ((with_reducible refine gate_builtin (b := .append) (xs := #[.tmp 113, .tmp 117]) rfl ?_); at_builtin; refine Kd.R_append k44 (w0 := w) w.heap.size rfl (.tmp 113) (.tmp 117) 40 44 (.agg #[(.int .i64 0), (.string ⟨#[]⟩), (.int .i64 0)]) 32 rfl Tryd.underlying40 info44 rfl (by decide) (by omega) u5 x5_1 (⟨5, (⟨#[]⟩ : ByteArray), (a0.size : Int)⟩ : S44) [.int .i64 5, .string (⟨#[]⟩ : ByteArray), .int .i64 (a0.size : Int)] (fun _ => True) (fun _ => False) rfl rfl ?aP (fun _ hk => hk.elim) ?aF ?aO ?aB ?aS ?aL ?_; (case aP => exact k44_mkM _ _ _ (⟨5, (⟨#[]⟩ : ByteArray), (a0.size : Int)⟩ : S44)); (case aB => exact (hbT HB.out)); (case aF => exact (fun _ _ => trivial)); (case aO => exact (by (with_reducible repeat (first | apply Kd.R_alloc | apply Kd.R_drewN | apply Kd.R_drew)); exact HO_5.out)); (case aS => exact (below_size (hbT HB.out))); (case aL => have := LMc76.out; omega); intro v262 w77 ho hb hg hat; rw [← Ny261.out] at ho; have n0_ := Aside0.mk (hb); have n1_ := Aside0.mk (ho); clear HB; clear HO_5; have HB := n0_; have HO263 := n1_; clear n0_ n1_; clear ho hb hg hat)))
            try rw [Exit.noGoto_ret]
            go_ret3
            exact ⟨_, by first | rfl | (simp [errW_none, errW_some] <;> rfl) | (simp [*, errW_none, errW_some] <;> rfl), by (with_reducible repeat (first | apply Kd.R_alloc | apply Kd.R_drewN | apply Kd.R_drew)); exact HO263.out, hbT HB.out⟩
          · rw [if_neg c76] at H
            exact absurd H (by simp)

end Go.Proofs.YthmcapdakplhdaaDoor.Pr
end

/-! ## text Prx1 -/
section
namespace Go.Proofs.YthmcapdakplhdaaDoor.Pr
open Go.RowKit Go.Proofs.YthmcapdakplhdaaDoorW.PrintWords Go.Proofs.YthmcapdakplhdaaDoorW.PrintLast Go.Proofs.YthmcapdakplhdaaDoorW.PrintMore
attribute [local go_sem] max2_int min2_int max_two min_two max_three min_three max_four min_four   -- for this text's walks alone
attribute [local go_sem high] Go.Proofs.YthmcapdakplhdaaDoor.isSome_setCell
set_option maxRecDepth 100000
set_option linter.unusedVariables false
set_option linter.unusedSimpArgs false

theorem eqA44 (d : Nat) (w : World) (x0 y0 : Int) (x1 y1 : ByteArray) (x2 y2 : Int) :
    (Op.equalIn (d + 2) 44 (.agg #[.int .i64 x0, .string x1, .int .i64 x2]) (.agg #[.int .i64 y0, .string y1, .int .i64 y2])).run Tryd.prog w = .ok (x0 == y0 && (x1.toList == y1.toList && (x2 == y2))) w := by
  refine eqA_of Tryd.underlying44 (by kernel_rfl) ?_
  refine eqf_cons (by rfl) (by go_simp; rfl) (by go_simp; rfl) (by go_simp) ?_
  refine eqf_cons (by rfl) (by go_simp; rfl) (by go_simp; rfl) (by go_simp) ?_
  exact eqf_last (by rfl) (by go_simp; rfl) (by go_simp; rfl) (by go_simp)
end Go.Proofs.YthmcapdakplhdaaDoor.Pr
end

/-! ## text ExtTok2 -/
section
namespace Go.Proofs.YthmcapdakplhdaaDoor.Pr
open Go.RowKit Go.Proofs.YthmcapdakplhdaaDoorW.PrintWords Go.Proofs.YthmcapdakplhdaaDoorW.PrintLast Go.Proofs.YthmcapdakplhdaaDoorW.PrintMore
set_option maxRecDepth 100000
set_option linter.unusedVariables false
set_option linter.unusedSimpArgs false
/-- What token.Word tells. -/
def wordIn (s : ByteArray) : Bool := G0c0.any fun x => s.toList == x.toList
def token_Word.f (a0 : ByteArray) : Option Bool := some (wordIn a0)
theorem wrd_tab (cs : List ByteArray) : ∀ q : Nat, q < 16 → (#[.string (rdOf ByteArray.empty cs 0), .string (rdOf ByteArray.empty cs 1), .string (rdOf ByteArray.empty cs 2), .string (rdOf ByteArray.empty cs 3), .string (rdOf ByteArray.empty cs 4), .string (rdOf ByteArray.empty cs 5), .string (rdOf ByteArray.empty cs 6), .string (rdOf ByteArray.empty cs 7), .string (rdOf ByteArray.empty cs 8), .string (rdOf ByteArray.empty cs 9), .string (rdOf ByteArray.empty cs 10), .string (rdOf ByteArray.empty cs 11), .string (rdOf ByteArray.empty cs 12), .string (rdOf ByteArray.empty cs 13), .string (rdOf ByteArray.empty cs 14), .string (rdOf ByteArray.empty cs 15)] : Array Value)[q]? = some (.string (rdOf ByteArray.empty cs (q : Int)))
  | 0, _ => rfl
  | 1, _ => rfl
  | 2, _ => rfl
  | 3, _ => rfl
  | 4, _ => rfl
  | 5, _ => rfl
  | 6, _ => rfl
  | 7, _ => rfl
  | 8, _ => rfl
  | 9, _ => rfl
  | 10, _ => rfl
  | 11, _ => rfl
  | 12, _ => rfl
  | 13, _ => rfl
  | 14, _ => rfl
  | 15, _ => rfl
  | q + 16, h => absurd h (by omega)
theorem wrd_at (cs : List ByteArray) (i : Nat) (h : i < 16) (W : World) : (Instr.index 110 (.agg #[.string (rdOf ByteArray.empty cs 0), .string (rdOf ByteArray.empty cs 1), .string (rdOf ByteArray.empty cs 2), .string (rdOf ByteArray.empty cs 3), .string (rdOf ByteArray.empty cs 4), .string (rdOf ByteArray.empty cs 5), .string (rdOf ByteArray.empty cs 6), .string (rdOf ByteArray.empty cs 7), .string (rdOf ByteArray.empty cs 8), .string (rdOf ByteArray.empty cs 9), .string (rdOf ByteArray.empty cs 10), .string (rdOf ByteArray.empty cs 11), .string (rdOf ByteArray.empty cs 12), .string (rdOf ByteArray.empty cs 13), .string (rdOf ByteArray.empty cs 14), .string (rdOf ByteArray.empty cs 15)]) (.int .i64 (i : Int))).run Tryd.prog W = .ok (.string (rdOf ByteArray.empty cs (i : Int))) W := by
  have hx := wrd_tab cs i h
  generalize (#[.string (rdOf ByteArray.empty cs 0), .string (rdOf ByteArray.empty cs 1), .string (rdOf ByteArray.empty cs 2), .string (rdOf ByteArray.empty cs 3), .string (rdOf ByteArray.empty cs 4), .string (rdOf ByteArray.empty cs 5), .string (rdOf ByteArray.empty cs 6), .string (rdOf ByteArray.empty cs 7), .string (rdOf ByteArray.empty cs 8), .string (rdOf ByteArray.empty cs 9), .string (rdOf ByteArray.empty cs 10), .string (rdOf ByteArray.empty cs 11), .string (rdOf ByteArray.empty cs 12), .string (rdOf ByteArray.empty cs 13), .string (rdOf ByteArray.empty cs 14), .string (rdOf ByteArray.empty cs 15)] : Array Value) = X at *
  have hi : 0 ≤ (i : Int) ∧ (i : Int) < 16 := by omega
  have hsz : (sizeOf 9).run Tryd.prog W = .ok 1 W := by go_simp
  have hag : (isAgg 9).run Tryd.prog W = .ok false W := by go_simp
  simp [Instr.index, asIntOf, run_underlying Tryd.underlying110, hi, hsz, part, hag, hx]
  intro h2
  omega
set_option maxHeartbeats 4000000 in
theorem token_Word.calls (a0 : ByteArray) (r : Bool) (w : World) (HL_LG0 : Aside0 (LG0 w)) (h : token_Word.f a0 = some r) :
    Calls Tryd.prog 54 #[.string a0] w fun e w' => e = .returned (.bool r) ∧ Drawn0 w w' := by
  have HR := Aside0.mk (Option.some.inj h)
  clear h
  have h0 := LG0.at0 HL_LG0.out 0 (by decide) (by decide)
  have h1 := LG0.at0 HL_LG0.out 1 (by decide) (by decide)
  have h2 := LG0.at0 HL_LG0.out 2 (by decide) (by decide)
  have h3 := LG0.at0 HL_LG0.out 3 (by decide) (by decide)
  have h4 := LG0.at0 HL_LG0.out 4 (by decide) (by decide)
  have h5 := LG0.at0 HL_LG0.out 5 (by decide) (by decide)
  have h6 := LG0.at0 HL_LG0.out 6 (by decide) (by decide)
  have h7 := LG0.at0 HL_LG0.out 7 (by decide) (by decide)
  have h8 := LG0.at0 HL_LG0.out 8 (by decide) (by decide)
  have h9 := LG0.at0 HL_LG0.out 9 (by decide) (by decide)
  have h10 := LG0.at0 HL_LG0.out 10 (by decide) (by decide)
  have h11 := LG0.at0 HL_LG0.out 11 (by decide) (by decide)
  have h12 := LG0.at0 HL_LG0.out 12 (by decide) (by decide)
  have h13 := LG0.at0 HL_LG0.out 13 (by decide) (by decide)
  have h14 := LG0.at0 HL_LG0.out 14 (by decide) (by decide)
  have h15 := LG0.at0 HL_LG0.out 15 (by decide) (by decide)
  have hin : wordIn a0 = G0c0.any (fun x => a0.toList == x.toList) := rfl
  have hlen : G0c0.length = 16 := rfl
  rw [hin] at HR
  have HLN := Aside0.mk hlen
  clear hin hlen
  generalize G0c0 = cs at *
  simp only [Int.reduceToNat] at h0 h1 h2 h3 h4 h5 h6 h7 h8 h9 h10 h11 h12 h13 h14 h15
  go_enter Tryd.func54, Tryd.ntmps54
  go_wp2
  clear h0 h1 h2 h3 h4 h5 h6 h7 h8 h9 h10 h11 h12 h13 h14 h15
  go_loopg [6] 16 (fun g v6 wx => ∃ i : Nat, v6 = .int .i64 i ∧ i + g = 16 ∧ Aside0 ((cs.take i).any (fun x => a0.toList == x.toList) = false) ∧ wx = w)
  case atStart => exact ⟨0, rfl, rfl, ⟨rfl⟩, rfl⟩
  case round =>
    obtain ⟨i, rfl, hig, HT, rfl⟩ := hrel
    by_cases hlt : i < 16
    · have hd : decide ((i : Int) < 16) = true := decide_eq_true (by omega)
      have hix := wrd_at cs i hlt
      have htk : (cs.take (i + 1)).any (fun x => a0.toList == x.toList) = (a0.toList == (rdOf ByteArray.empty cs (i : Int)).toList) := by
        have hl := HLN.out
        have e : rdOf ByteArray.empty cs (i : Int) = cs[i]'(by omega) := by
          show cs.getD _ _ = _
          rw [Int.toNat_natCast, List.getD_eq_getElem?_getD, List.getElem?_eq_getElem (by omega)]; rfl
        rw [List.take_succ_eq_append_getElem (by omega), List.any_append, HT.out, Bool.false_or, e]
        simp
      have HTK := Aside0.mk htk
      clear htk
      by_cases hq : (a0.toList == (rdOf ByteArray.empty cs (i : Int)).toList) = true
      · have hr : r = true := by
          rw [← HR.out, ← List.take_append_drop (i + 1) cs, List.any_append, HTK.out, hq]; rfl
        subst hr
        clear HTK HT HR
        go_wp2
        go_ret
        exact ⟨rfl, ⟨0, rfl⟩⟩
      · rw [Bool.not_eq_true] at hq
        have HT1 : Aside0 ((cs.take (i + 1)).any (fun x => a0.toList == x.toList) = false) := ⟨HTK.out.trans hq⟩
        clear HTK HT
        go_wp2
        cases gk with
        | zero => omega
        | succ g =>
          go_roundg g
          case measure => omega
          case rel => exact ⟨i + 1, rfl, by omega, HT1, rfl⟩
    · have hie : i = 16 := by omega
      subst hie
      have hd : decide (((16 : Nat) : Int) < 16) = false := by decide
      have hr : r = false := by
        have := HT.out
        rw [List.take_of_length_le (by rw [HLN.out]; exact Nat.le_refl _)] at this
        rw [← HR.out, this]
      subst hr
      go_wp2
      go_ret
      exact ⟨rfl, ⟨0, rfl⟩⟩
end Go.Proofs.YthmcapdakplhdaaDoor.Pr
end

/-! ## text Prx17 -/
section
namespace Go.Proofs.YthmcapdakplhdaaDoor.Pr
open Go.RowKit Go.Proofs.YthmcapdakplhdaaDoorW.PrintWords Go.Proofs.YthmcapdakplhdaaDoorW.PrintLast Go.Proofs.YthmcapdakplhdaaDoorW.PrintMore
attribute [local go_sem] max2_int min2_int max_two min_two max_three min_three max_four min_four   -- for this text's walks alone
attribute [local go_sem high] Go.Proofs.YthmcapdakplhdaaDoor.isSome_setCell
set_option maxRecDepth 100000
set_option linter.unusedVariables false
set_option linter.unusedSimpArgs false

/-! ### token_canBe: function 52 -/
def token_canBe.f (k : Nat) (a0_0 : Int) (a0_1 : ByteArray) (a0_2 : Int) (a1 : Bool) : Option (Bool) := if a0_0 = 1 then (if a0_1.toList = ([] : List UInt8) then (some false) else (if (a0_1.size : Int) ≤ 32 then (if 0 < (a0_1.size : Int) then ((token_begins.f k (bt a0_1 0)).bind fun t438 => (if t438 = 2 then ((token_run.f k a0_1 (.func (.func 48) #[] #[])).bind fun t439 => (some (t439 == (a0_1.size : Int)))) else (some false))) else (none)) else (some false))) else (if a0_0 = 2 then ((token_isInt.f a0_1).bind fun t440 => (some t440)) else (if a0_0 = 3 then (some (decide ((a0_1.size : Int) ≤ 256))) else (if a0_0 = 4 then (if a0_1.toList = ([] : List UInt8) then (some false) else ((token_signAt.f k a0_1).bind fun t441 => (some (t441 == (a0_1.size : Int))))) else (if a0_0 = 5 then (if a0_1.toList = ([] : List UInt8) then (some a1) else (some false)) else (some false)))))
set_option maxRecDepth 100000 in
theorem token_canBe.mono : ∀ a0 a1 a2 a3 k, LeO (token_canBe.f k a0 a1 a2 a3) (token_canBe.f (k + 1) a0 a1 a2 a3) := by
  intro a0 a1 a2 a3 k
  unfold token_canBe.f
  repeat' first
      | (with_reducible exact token_begins.mono _ _)
      | (with_reducible exact token_run.mono _ _ _)
      | (with_reducible exact token_signAt.mono _ _)
      | (with_reducible exact LeO.refl _)
      | (with_reducible exact LeO.none _)
      | (with_reducible refine LeO.ite ?_ ?_)
      | (with_reducible refine LeO.bind ?_ (fun _ => ?_))
      | exact token_begins.mono _ _
      | exact token_run.mono _ _ _
      | exact token_signAt.mono _ _
      | exact LeO.none _
      | refine LeO.ite ?_ ?_
      | refine LeO.bind ?_ (fun _ => ?_)
set_option maxHeartbeats 8000000 in
set_option maxRecDepth 100000 in
theorem token_canBe.calls (k : Nat) (a0_0 : Int) (a0_1 : ByteArray) (a0_2 : Int) (a1 : Bool) (r : Bool) (w : World) (HL_LErr : Aside0 (LErr w)) (h : token_canBe.f k a0_0 a0_1 a0_2 a1 = some r) :
    Calls Tryd.prog 52 #[.agg #[.int .i64 a0_0, .string a0_1, .int .i64 a0_2], .bool a1] w fun e w' => e = .returned (.bool r) ∧ Below w.heap.size w w' := by
  have hu44 := Tryd.underlying44
  have HB := Aside0.mk (Below.refl w.heap.size w)
  have H : (if a0_0 = 1 then (if a0_1.toList = ([] : List UInt8) then (some false) else (if (a0_1.size : Int) ≤ 32 then (if 0 < (a0_1.size : Int) then ((token_begins.f k (bt a0_1 0)).bind fun t438 => (if t438 = 2 then ((token_run.f k a0_1 (.func (.func 48) #[] #[])).bind fun t439 => (some (t439 == (a0_1.size : Int)))) else (some false))) else (none)) else (some false))) else (if a0_0 = 2 then ((token_isInt.f a0_1).bind fun t440 => (some t440)) else (if a0_0 = 3 then (some (decide ((a0_1.size : Int) ≤ 256))) else (if a0_0 = 4 then (if a0_1.toList = ([] : List UInt8) then (some false) else ((token_signAt.f k a0_1).bind fun t441 => (some (t441 == (a0_1.size : Int))))) else (if a0_0 = 5 then (if a0_1.toList = ([] : List UInt8) then (some a1) else (some false)) else (some false)))))) = some r := h
  clear h
  by_cases c3 : a0_0 = 1
  · rw [if_pos c3] at H
    have c3b0 : (a0_0 == 1) = true := beq_iff_eq.mpr c3
    have c3b1 : (a0_0 != 1) = false := bne_eq_false_iff_eq.mpr c3
    clear c3
    by_cases c4 : a0_1.toList = ([] : List UInt8)
    · rw [if_pos c4] at H
      have c4b0 : (a0_1.toList == ([] : List UInt8)) = true := beq_iff_eq.mpr c4
      have c4b1 : (a0_1.toList != ([] : List UInt8)) = false := bne_eq_false_iff_eq.mpr c4
      clear c4
      obtain rfl := Option.some.inj H
      go_enter Tryd.func52, Tryd.ntmps52
      go_wp2_with (first | ((with_reducible refine gate_dst (N := 2) rfl ?_); (try (refine gate_guard (by rfl) ?_; dsimp only)); refine box_event ?hg (N := 2) ?hd (cs := #[.int .i64 a0_0, .string a0_1, .int .i64 a0_2]) (t := 44) ?hr ?_; (case hd => rfl); (case hg => rfl); (case hr => first | (go_simp; done) | (go_simp; rfl)); intro gb437 hg w5 hbox hb; have BK437 := Aside0.mk hbox; have GW437 := geA hg HB; have GE437 := geA hg HB; replace HB := bsA HB hb; clear hb hbox hg; have hcz6_0 : w5.cell? ⟨gb437, 0, none⟩ = some (.int .i64 a0_0) := (blk_cell BK437.out 0).trans rfl; have hcz6_1 : w5.cell? ⟨gb437, 1, none⟩ = some (.string a0_1) := (blk_cell BK437.out 1).trans rfl; have hcz6_2 : w5.cell? ⟨gb437, 2, none⟩ = some (.int .i64 a0_2) := (blk_cell BK437.out 2).trans rfl; have hfz6_0 := blk_frozen BK437.out 0; have hfz6_1 := blk_frozen BK437.out 1; have hfz6_2 := blk_frozen BK437.out 2))
      go_ret
      exact ⟨by first | rfl | (simp [errW_none, errW_some] <;> rfl) | (simp [*, errW_none, errW_some] <;> rfl), hbT HB.out⟩
    · rw [if_neg c4] at H
      have c4b0 : (a0_1.toList == ([] : List UInt8)) = false := beq_eq_false_iff_ne.mpr c4
      have c4b1 : (a0_1.toList != ([] : List UInt8)) = true := bne_iff_ne.mpr c4
      by_cases c7 : (a0_1.size : Int) ≤ 32
      · rw [if_pos c7] at H
        have c7b0 : decide ((a0_1.size : Int) ≤ 32) = true := decide_eq_true c7
        have c7b1 : decide (a0_1.size ≤ 32) = true := decide_eq_true (by omega)
        clear c7
        by_cases c8 : 0 < (a0_1.size : Int)
        · rw [if_pos c8] at H
          have c8b0 : decide (0 < (a0_1.size : Int)) = true := decide_eq_true c8
          have c8b1 : decide (0 < a0_1.size) = true := decide_eq_true (by omega)
          clear c8
          replace H := Option.bind_eq_some_iff.mp H
          obtain ⟨t438, A100, H⟩ := H
          replace H : (if t438 = 2 then ((token_run.f k a0_1 (.func (.func 48) #[] #[])).bind fun t439 => (some (t439 == (a0_1.size : Int)))) else (some false)) = some r := H
          have A10 := Aside0.mk A100
          clear A100
          by_cases c11 : t438 = 2
          · rw [if_pos c11] at H
            have c11b0 : (t438 == 2) = true := beq_iff_eq.mpr c11
            have c11b1 : (t438 != 2) = false := bne_eq_false_iff_eq.mpr c11
            clear c11
            replace H := Option.bind_eq_some_iff.mp H
            obtain ⟨t439, A120, H⟩ := H
            replace H : (some (t439 == (a0_1.size : Int))) = some r := H
            have A12 := Aside0.mk A120
            clear A120
            obtain rfl := Option.some.inj H
            go_enter Tryd.func52, Tryd.ntmps52
            go_wp2_with (first | ((with_reducible refine gate_dst (N := 2) rfl ?_); (try (refine gate_guard (by rfl) ?_; dsimp only)); refine box_event ?hg (N := 2) ?hd (cs := #[.int .i64 a0_0, .string a0_1, .int .i64 a0_2]) (t := 44) ?hr ?_; (case hd => rfl); (case hg => rfl); (case hr => first | (go_simp; done) | (go_simp; rfl)); intro gb437 hg w13 hbox hb; have BK437 := Aside0.mk hbox; have GW437 := geA hg HB; have GE437 := geA hg HB; replace HB := bsA HB hb; clear hb hbox hg; have hcz14_0 : w13.cell? ⟨gb437, 0, none⟩ = some (.int .i64 a0_0) := (blk_cell BK437.out 0).trans rfl; have hcz14_1 : w13.cell? ⟨gb437, 1, none⟩ = some (.string a0_1) := (blk_cell BK437.out 1).trans rfl; have hcz14_2 : w13.cell? ⟨gb437, 2, none⟩ = some (.int .i64 a0_2) := (blk_cell BK437.out 2).trans rfl; have hfz14_0 := blk_frozen BK437.out 0; have hfz14_1 := blk_frozen BK437.out 1; have hfz14_2 := blk_frozen BK437.out 2; have p9 : 0 ≤ (0 : Int) := (by omega); have q9 : 0 < a0_1.size := (by have : (0 : Int) < (a0_1.size : Int) := of_decide_eq_true (by first | (with_reducible assumption) | assumption); omega); have hx9 : ∀ h : 0 < a0_1.size, ((a0_1[0]'h).toNat : Int) = bt a0_1 0 := bt_at a0_1 0; clear p9; have qi9 : (0 < (a0_1.size : Int)) = True := eq_true (of_decide_eq_true (by first | (with_reducible assumption) | assumption)); replace q9 := eq_true q9) | (go_at_call 46; (with_reducible refine (token_begins.calls k (bt a0_1 0) t438 _ A10.out).mono ?_); rintro e w' ⟨rfl, ⟨nd, rfl⟩⟩) | (go_at_call 47; (with_reducible refine (token_run.calls k a0_1 (.func (.func 48) #[] #[]) t439 _ A12.out).mono ?_); rintro e w' ⟨rfl, ⟨nd, rfl⟩⟩))
            go_ret
            exact ⟨by first | rfl | (simp [errW_none, errW_some] <;> rfl) | (simp [*, errW_none, errW_some] <;> rfl), hbT HB.out⟩
          · rw [if_neg c11] at H
            have c11b0 : (t438 == 2) = false := beq_eq_false_iff_ne.mpr c11
            have c11b1 : (t438 != 2) = true := bne_iff_ne.mpr c11
            obtain rfl := Option.some.inj H
            go_enter Tryd.func52, Tryd.ntmps52
            go_wp2_with (first | ((with_reducible refine gate_dst (N := 2) rfl ?_); (try (refine gate_guard (by rfl) ?_; dsimp only)); refine box_event ?hg (N := 2) ?hd (cs := #[.int .i64 a0_0, .string a0_1, .int .i64 a0_2]) (t := 44) ?hr ?_; (case hd => rfl); (case hg => rfl); (case hr => first | (go_simp; done) | (go_simp; rfl)); intro gb437 hg w15 hbox hb; have BK437 := Aside0.mk hbox; have GW437 := geA hg HB; have GE437 := geA hg HB; replace HB := bsA HB hb; clear hb hbox hg; have hcz16_0 : w15.cell? ⟨gb437, 0, none⟩ = some (.int .i64 a0_0) := (blk_cell BK437.out 0).trans rfl; have hcz16_1 : w15.cell? ⟨gb437, 1, none⟩ = some (.string a0_1) := (blk_cell BK437.out 1).trans rfl; have hcz16_2 : w15.cell? ⟨gb437, 2, none⟩ = some (.int .i64 a0_2) := (blk_cell BK437.out 2).trans rfl; have hfz16_0 := blk_frozen BK437.out 0; have hfz16_1 := blk_frozen BK437.out 1; have hfz16_2 := blk_frozen BK437.out 2; have p9 : 0 ≤ (0 : Int) := (by omega); have q9 : 0 < a0_1.size := (by have : (0 : Int) < (a0_1.size : Int) := of_decide_eq_true (by first | (with_reducible assumption) | assumption); omega); have hx9 : ∀ h : 0 < a0_1.size, ((a0_1[0]'h).toNat : Int) = bt a0_1 0 := bt_at a0_1 0; clear p9; have qi9 : (0 < (a0_1.size : Int)) = True := eq_true (of_decide_eq_true (by first | (with_reducible assumption) | assumption)); replace q9 := eq_true q9) | (go_at_call 46; (with_reducible refine (token_begins.calls k (bt a0_1 0) t438 _ A10.out).mono ?_); rintro e w' ⟨rfl, ⟨nd, rfl⟩⟩))
            go_ret
            exact ⟨by first | rfl | (simp [errW_none, errW_some] <;> rfl) | (simp [*, errW_none, errW_some] <;> rfl), hbT HB.out⟩
        · rw [if_neg c8] at H
          exact absurd H (by simp)
      · rw [if_neg c7] at H
        have c7b0 : decide ((a0_1.size : Int) ≤ 32) = false := decide_eq_false c7
        have c7b1 : decide (a0_1.size ≤ 32) = false := decide_eq_false (by omega)
        clear c7
        obtain rfl := Option.some.inj H
        go_enter Tryd.func52, Tryd.ntmps52
        go_wp2_with (first | ((with_reducible refine gate_dst (N := 2) rfl ?_); (try (refine gate_guard (by rfl) ?_; dsimp only)); refine box_event ?hg (N := 2) ?hd (cs := #[.int .i64 a0_0, .string a0_1, .int .i64 a0_2]) (t := 44) ?hr ?_; (case hd => rfl); (case hg => rfl); (case hr => first | (go_simp; done) | (go_simp; rfl)); intro gb437 hg w17 hbox hb; have BK437 := Aside0.mk hbox; have GW437 := geA hg HB; have GE437 := geA hg HB; replace HB := bsA HB hb; clear hb hbox hg; have hcz18_0 : w17.cell? ⟨gb437, 0, none⟩ = some (.int .i64 a0_0) := (blk_cell BK437.out 0).trans rfl; have hcz18_1 : w17.cell? ⟨gb437, 1, none⟩ = some (.string a0_1) := (blk_cell BK437.out 1).trans rfl; have hcz18_2 : w17.cell? ⟨gb437, 2, none⟩ = some (.int .i64 a0_2) := (blk_cell BK437.out 2).trans rfl; have hfz18_0 := blk_frozen BK437.out 0; have hfz18_1 := blk_frozen BK437.out 1; have hfz18_2 := blk_frozen BK437.out 2))
        go_ret
        exact ⟨by first | rfl | (simp [errW_none, errW_some] <;> rfl) | (simp [*, errW_none, errW_some] <;> rfl), hbT HB.out⟩
  · rw [if_neg c3] at H
    have c3b0 : (a0_0 == 1) = false := beq_eq_false_iff_ne.mpr c3
    have c3b1 : (a0_0 != 1) = true := bne_iff_ne.mpr c3
    by_cases c19 : a0_0 = 2
    · rw [if_pos c19] at H
      have c19b0 : (a0_0 == 2) = true := beq_iff_eq.mpr c19
      have c19b1 : (a0_0 != 2) = false := bne_eq_false_iff_eq.mpr c19
      clear c19
      replace H := Option.bind_eq_some_iff.mp H
      obtain ⟨t440, A200, H⟩ := H
      replace H : (some t440) = some r := H
      have A20 := Aside0.mk A200
      clear A200
      obtain rfl := Option.some.inj H
      go_enter Tryd.func52, Tryd.ntmps52
      go_wp2_with (first | ((with_reducible refine gate_dst (N := 2) rfl ?_); (try (refine gate_guard (by rfl) ?_; dsimp only)); refine box_event ?hg (N := 2) ?hd (cs := #[.int .i64 a0_0, .string a0_1, .int .i64 a0_2]) (t := 44) ?hr ?_; (case hd => rfl); (case hg => rfl); (case hr => first | (go_simp; done) | (go_simp; rfl)); intro gb437 hg w21 hbox hb; have BK437 := Aside0.mk hbox; have GW437 := geA hg HB; have GE437 := geA hg HB; replace HB := bsA HB hb; clear hb hbox hg; have hcz22_0 : w21.cell? ⟨gb437, 0, none⟩ = some (.int .i64 a0_0) := (blk_cell BK437.out 0).trans rfl; have hcz22_1 : w21.cell? ⟨gb437, 1, none⟩ = some (.string a0_1) := (blk_cell BK437.out 1).trans rfl; have hcz22_2 : w21.cell? ⟨gb437, 2, none⟩ = some (.int .i64 a0_2) := (blk_cell BK437.out 2).trans rfl; have hfz22_0 := blk_frozen BK437.out 0; have hfz22_1 := blk_frozen BK437.out 1; have hfz22_2 := blk_frozen BK437.out 2) | ((with_reducible refine gate_callee (f := 49) rfl ?_); refine goesT (some 35) Tryd.func49 #[.string a0_1] ?_; (with_reducible refine (token_isInt.calls a0_1 t440 _ ?side1 A20.out).mono ?_); (case side1 => first | (with_reducible exact HL_LErr) | exact ⟨LErr.below HL_LErr.out (hbT HB.out)⟩); rintro e w23 ⟨rfl, hb⟩; refine ⟨_, rfl, ?_⟩; replace BK437 := bbA BK437 hb; replace HB := bsA HB hb; (try clear hb); (try clear hb2); (try clear hk); (try clear hi)))
      go_ret
      exact ⟨by first | rfl | (simp [errW_none, errW_some] <;> rfl) | (simp [*, errW_none, errW_some] <;> rfl), hbT HB.out⟩
    · rw [if_neg c19] at H
      have c19b0 : (a0_0 == 2) = false := beq_eq_false_iff_ne.mpr c19
      have c19b1 : (a0_0 != 2) = true := bne_iff_ne.mpr c19
      by_cases c24 : a0_0 = 3
      · rw [if_pos c24] at H
        have c24b0 : (a0_0 == 3) = true := beq_iff_eq.mpr c24
        have c24b1 : (a0_0 != 3) = false := bne_eq_false_iff_eq.mpr c24
        clear c24
        obtain rfl := Option.some.inj H
        go_enter Tryd.func52, Tryd.ntmps52
        go_wp2_with (first | ((with_reducible refine gate_dst (N := 2) rfl ?_); (try (refine gate_guard (by rfl) ?_; dsimp only)); refine box_event ?hg (N := 2) ?hd (cs := #[.int .i64 a0_0, .string a0_1, .int .i64 a0_2]) (t := 44) ?hr ?_; (case hd => rfl); (case hg => rfl); (case hr => first | (go_simp; done) | (go_simp; rfl)); intro gb437 hg w25 hbox hb; have BK437 := Aside0.mk hbox; have GW437 := geA hg HB; have GE437 := geA hg HB; replace HB := bsA HB hb; clear hb hbox hg; have hcz26_0 : w25.cell? ⟨gb437, 0, none⟩ = some (.int .i64 a0_0) := (blk_cell BK437.out 0).trans rfl; have hcz26_1 : w25.cell? ⟨gb437, 1, none⟩ = some (.string a0_1) := (blk_cell BK437.out 1).trans rfl; have hcz26_2 : w25.cell? ⟨gb437, 2, none⟩ = some (.int .i64 a0_2) := (blk_cell BK437.out 2).trans rfl; have hfz26_0 := blk_frozen BK437.out 0; have hfz26_1 := blk_frozen BK437.out 1; have hfz26_2 := blk_frozen BK437.out 2))
        go_ret
        exact ⟨by first | rfl | (simp [errW_none, errW_some] <;> rfl) | (simp [*, errW_none, errW_some] <;> rfl), hbT HB.out⟩
      · rw [if_neg c24] at H
        have c24b0 : (a0_0 == 3) = false := beq_eq_false_iff_ne.mpr c24
        have c24b1 : (a0_0 != 3) = true := bne_iff_ne.mpr c24
        by_cases c27 : a0_0 = 4
        · rw [if_pos c27] at H
          have c27b0 : (a0_0 == 4) = true := beq_iff_eq.mpr c27
          have c27b1 : (a0_0 != 4) = false := bne_eq_false_iff_eq.mpr c27
          clear c27
          by_cases c28 : a0_1.toList = ([] : List UInt8)
          · rw [if_pos c28] at H
            have c28b0 : (a0_1.toList == ([] : List UInt8)) = true := beq_iff_eq.mpr c28
            have c28b1 : (a0_1.toList != ([] : List UInt8)) = false := bne_eq_false_iff_eq.mpr c28
            clear c28
            obtain rfl := Option.some.inj H
            go_enter Tryd.func52, Tryd.ntmps52
            go_wp2_with (first | ((with_reducible refine gate_dst (N := 2) rfl ?_); (try (refine gate_guard (by rfl) ?_; dsimp only)); refine box_event ?hg (N := 2) ?hd (cs := #[.int .i64 a0_0, .string a0_1, .int .i64 a0_2]) (t := 44) ?hr ?_; (case hd => rfl); (case hg => rfl); (case hr => first | (go_simp; done) | (go_simp; rfl)); intro gb437 hg w29 hbox hb; have BK437 := Aside0.mk hbox; have GW437 := geA hg HB; have GE437 := geA hg HB; replace HB := bsA HB hb; clear hb hbox hg; have hcz30_0 : w29.cell? ⟨gb437, 0, none⟩ = some (.int .i64 a0_0) := (blk_cell BK437.out 0).trans rfl; have hcz30_1 : w29.cell? ⟨gb437, 1, none⟩ = some (.string a0_1) := (blk_cell BK437.out 1).trans rfl; have hcz30_2 : w29.cell? ⟨gb437, 2, none⟩ = some (.int .i64 a0_2) := (blk_cell BK437.out 2).trans rfl; have hfz30_0 := blk_frozen BK437.out 0; have hfz30_1 := blk_frozen BK437.out 1; have hfz30_2 := blk_frozen BK437.out 2))
            go_ret
            exact ⟨by first | rfl | (simp [errW_none, errW_some] <;> rfl) | (simp [*, errW_none, errW_some] <;> rfl), hbT HB.out⟩
          · rw [if_neg c28] at H
            have c28b0 : (a0_1.toList == ([] : List UInt8)) = false := beq_eq_false_iff_ne.mpr c28
            have c28b1 : (a0_1.toList != ([] : List UInt8)) = true := bne_iff_ne.mpr c28
            replace H := Option.bind_eq_some_iff.mp H
            obtain ⟨t441, A310, H⟩ := H
            replace H : (some (t441 == (a0_1.size : Int))) = some r := H
            have A31 := Aside0.mk A310
            clear A310
            obtain rfl := Option.some.inj H
            go_enter Tryd.func52, Tryd.ntmps52
            go_wp2_with (first | ((with_reducible refine gate_dst (N := 2) rfl ?_); (try (refine gate_guard (by rfl) ?_; dsimp only)); refine box_event ?hg (N := 2) ?hd (cs := #[.int .i64 a0_0, .string a0_1, .int .i64 a0_2]) (t := 44) ?hr ?_; (case hd => rfl); (case hg => rfl); (case hr => first | (go_simp; done) | (go_simp; rfl)); intro gb437 hg w32 hbox hb; have BK437 := Aside0.mk hbox; have GW437 := geA hg HB; have GE437 := geA hg HB; replace HB := bsA HB hb; clear hb hbox hg; have hcz33_0 : w32.cell? ⟨gb437, 0, none⟩ = some (.int .i64 a0_0) := (blk_cell BK437.out 0).trans rfl; have hcz33_1 : w32.cell? ⟨gb437, 1, none⟩ = some (.string a0_1) := (blk_cell BK437.out 1).trans rfl; have hcz33_2 : w32.cell? ⟨gb437, 2, none⟩ = some (.int .i64 a0_2) := (blk_cell BK437.out 2).trans rfl; have hfz33_0 := blk_frozen BK437.out 0; have hfz33_1 := blk_frozen BK437.out 1; have hfz33_2 := blk_frozen BK437.out 2) | (go_at_call 51; (with_reducible refine (token_signAt.calls k a0_1 t441 _ A31.out).mono ?_); rintro e w' ⟨rfl, ⟨nd, rfl⟩⟩))
            go_ret
            exact ⟨by first | rfl | (simp [errW_none, errW_some] <;> rfl) | (simp [*, errW_none, errW_some] <;> rfl), hbT HB.out⟩
        · rw [if_neg c27] at H
          have c27b0 : (a0_0 == 4) = false := beq_eq_false_iff_ne.mpr c27
          have c27b1 : (a0_0 != 4) = true := bne_iff_ne.mpr c27
          by_cases c34 : a0_0 = 5
          · rw [if_pos c34] at H
            have c34b0 : (a0_0 == 5) = true := beq_iff_eq.mpr c34
            have c34b1 : (a0_0 != 5) = false := bne_eq_false_iff_eq.mpr c34
            clear c34
            by_cases c35 : a0_1.toList = ([] : List UInt8)
            · rw [if_pos c35] at H
              have c35b0 : (a0_1.toList == ([] : List UInt8)) = true := beq_iff_eq.mpr c35
              have c35b1 : (a0_1.toList != ([] : List UInt8)) = false := bne_eq_false_iff_eq.mpr c35
              clear c35
              obtain rfl := Option.some.inj H
              go_enter Tryd.func52, Tryd.ntmps52
              go_wp2_with (first | ((with_reducible refine gate_dst (N := 2) rfl ?_); (try (refine gate_guard (by rfl) ?_; dsimp only)); refine box_event ?hg (N := 2) ?hd (cs := #[.int .i64 a0_0, .string a0_1, .int .i64 a0_2]) (t := 44) ?hr ?_; (case hd => rfl); (case hg => rfl); (case hr => first | (go_simp; done) | (go_simp; rfl)); intro gb437 hg w36 hbox hb; have BK437 := Aside0.mk hbox; have GW437 := geA hg HB; have GE437 := geA hg HB; replace HB := bsA HB hb; clear hb hbox hg; have hcz37_0 : w36.cell? ⟨gb437, 0, none⟩ = some (.int .i64 a0_0) := (blk_cell BK437.out 0).trans rfl; have hcz37_1 : w36.cell? ⟨gb437, 1, none⟩ = some (.string a0_1) := (blk_cell BK437.out 1).trans rfl; have hcz37_2 : w36.cell? ⟨gb437, 2, none⟩ = some (.int .i64 a0_2) := (blk_cell BK437.out 2).trans rfl; have hfz37_0 := blk_frozen BK437.out 0; have hfz37_1 := blk_frozen BK437.out 1; have hfz37_2 := blk_frozen BK437.out 2))
              go_ret
              exact ⟨by first | rfl | (simp [errW_none, errW_some] <;> rfl) | (simp [*, errW_none, errW_some] <;> rfl), hbT HB.out⟩
            · rw [if_neg c35] at H
              have c35b0 : (a0_1.toList == ([] : List UInt8)) = false := beq_eq_false_iff_ne.mpr c35
              have c35b1 : (a0_1.toList != ([] : List UInt8)) = true := bne_iff_ne.mpr c35
              obtain rfl := Option.some.inj H
              go_enter Tryd.func52, Tryd.ntmps52
              go_wp2_with (first | ((with_reducible refine gate_dst (N := 2) rfl ?_); (try (refine gate_guard (by rfl) ?_; dsimp only)); refine box_event ?hg (N := 2) ?hd (cs := #[.int .i64 a0_0, .string a0_1, .int .i64 a0_2]) (t := 44) ?hr ?_; (case hd => rfl); (case hg => rfl); (case hr => first | (go_simp; done) | (go_simp; rfl)); intro gb437 hg w38 hbox hb; have BK437 := Aside0.mk hbox; have GW437 := geA hg HB; have GE437 := geA hg HB; replace HB := bsA HB hb; clear hb hbox hg; have hcz39_0 : w38.cell? ⟨gb437, 0, none⟩ = some (.int .i64 a0_0) := (blk_cell BK437.out 0).trans rfl; have hcz39_1 : w38.cell? ⟨gb437, 1, none⟩ = some (.string a0_1) := (blk_cell BK437.out 1).trans rfl; have hcz39_2 : w38.cell? ⟨gb437, 2, none⟩ = some (.int .i64 a0_2) := (blk_cell BK437.out 2).trans rfl; have hfz39_0 := blk_frozen BK437.out 0; have hfz39_1 := blk_frozen BK437.out 1; have hfz39_2 := blk_frozen BK437.out 2))
              go_ret
              exact ⟨by first | rfl | (simp [errW_none, errW_some] <;> rfl) | (simp [*, errW_none, errW_some] <;> rfl), hbT HB.out⟩
          · rw [if_neg c34] at H
            have c34b0 : (a0_0 == 5) = false := beq_eq_false_iff_ne.mpr c34
            have c34b1 : (a0_0 != 5) = true := bne_iff_ne.mpr c34
            obtain rfl := Option.some.inj H
            go_enter Tryd.func52, Tryd.ntmps52
            go_wp2_with (first | ((with_reducible refine gate_dst (N := 2) rfl ?_); (try (refine gate_guard (by rfl) ?_; dsimp only)); refine box_event ?hg (N := 2) ?hd (cs := #[.int .i64 a0_0, .string a0_1, .int .i64 a0_2]) (t := 44) ?hr ?_; (case hd => rfl); (case hg => rfl); (case hr => first | (go_simp; done) | (go_simp; rfl)); intro gb437 hg w40 hbox hb; have BK437 := Aside0.mk hbox; have GW437 := geA hg HB; have GE437 := geA hg HB; replace HB := bsA HB hb; clear hb hbox hg; have hcz41_0 : w40.cell? ⟨gb437, 0, none⟩ = some (.int .i64 a0_0) := (blk_cell BK437.out 0).trans rfl; have hcz41_1 : w40.cell? ⟨gb437, 1, none⟩ = some (.string a0_1) := (blk_cell BK437.out 1).trans rfl; have hcz41_2 : w40.cell? ⟨gb437, 2, none⟩ = some (.int .i64 a0_2) := (blk_cell BK437.out 2).trans rfl; have hfz41_0 := blk_frozen BK437.out 0; have hfz41_1 := blk_frozen BK437.out 1; have hfz41_2 := blk_frozen BK437.out 2))
            go_ret
            exact ⟨by first | rfl | (simp [errW_none, errW_some] <;> rfl) | (simp [*, errW_none, errW_some] <;> rfl), hbT HB.out⟩

end Go.Proofs.YthmcapdakplhdaaDoor.Pr
end

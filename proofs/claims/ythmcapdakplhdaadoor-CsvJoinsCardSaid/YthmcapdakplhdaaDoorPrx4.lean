-- printed by a patched copy of the kit's print, for this seat
import Derived.Test.YthmcapdakplhdaaDoorPrx0
import Derived.Test.YthmcapdakplhdaaDoorPrx2
import Derived.Test.YthmcapdakplhdaaDoorPrx3
import Derived.Test.YthmcapdakplhdaaDoorExtCs1
import Derived.Test.YthmcapdakplhdaaDoorExtCs2
namespace Go.Proofs.YthmcapdakplhdaaDoor.Pr
open Go.RowKit Go.Proofs.YthmcapdakplhdaaDoorW.PrintWords Go.Proofs.YthmcapdakplhdaaDoorW.PrintLast Go.Proofs.YthmcapdakplhdaaDoorW.PrintMore
attribute [local go_sem] max2_int min2_int max_two min_two max_three min_three max_four min_four   -- for this text's walks alone
attribute [local go_sem high] Go.Proofs.YthmcapdakplhdaaDoor.isSome_setCell
set_option maxRecDepth 100000
set_option linter.unusedVariables false
set_option linter.unusedSimpArgs false

/-! ### refrainlaw4_untouched: function 20 -/
mutual
def refrainlaw4_untouched.l0 : Nat → List (List ByteArray) → List (List ByteArray) → List (List ByteArray) → Int → Int → Option (Bool)
  | 0, _, _, _, _, _ => none
  | k + 1, x0, x1, x2, x7, x8 => if x8 < 20 then (if 0 ≤ (wrap64 (x7 + x8)) then (if (wrap64 (x7 + x8)) < (x0.length : Int) then (if ((rd_L1 x0 (wrap64 (x7 + x8))).length : Int) = 1 then (if 0 < ((rd_L1 x0 (wrap64 (x7 + x8))).length : Int) then ((refrainlaw4_word.f x8).bind fun t180 => (if (rdOf ByteArray.empty (rd_L1 x0 (wrap64 (x7 + x8))) 0).toList = t180.toList then (refrainlaw4_untouched.l0 k x0 x1 x2 x7 (wrap64 (x8 + 1))) else (some false))) else (none)) else (some false)) else (none)) else (none)) else (refrainlaw4_untouched.l1 k x0 x1 x2 x7 0)
def refrainlaw4_untouched.l1 : Nat → List (List ByteArray) → List (List ByteArray) → List (List ByteArray) → Int → Int → Option (Bool)
  | 0, _, _, _, _, _ => none
  | k + 1, x0, x1, x2, x7, x9 => if x9 < x7 then (if 0 ≤ x9 then (if x9 < (x2.length : Int) then (if x9 < (x0.length : Int) then ((refrainlaw4_sameRow.f k (rd_L1 x0 x9) (rd_L1 x2 x9)).bind fun t184 => (if t184 = true then (if x9 < (x1.length : Int) then (if 0 ≤ ((rd_L1 x2 x9).length : Int) then (if ((rd_L1 x2 x9).length : Int) ≤ ((rd_L1 x1 x9).length : Int) then ((refrainlaw4_sameRow.f k ((rd_L1 x1 x9).take (((rd_L1 x2 x9).length : Int) : Int).toNat) (rd_L1 x2 x9)).bind fun t188 => (refrainlaw4_untouched.j2 k x0 x1 x2 x7 x9 ((rd_L1 x2 x9).length : Int) (!t188))) else (none)) else (none)) else (none)) else (refrainlaw4_untouched.j2 k x0 x1 x2 x7 x9 ((rd_L1 x2 x9).length : Int) true))) else (none)) else (none)) else (none)) else (some true)
def refrainlaw4_untouched.j2 : Nat → List (List ByteArray) → List (List ByteArray) → List (List ByteArray) → Int → Int → Int → Bool → Option (Bool)
  | 0, _, _, _, _, _, _, _ => none
  | k + 1, x0, x1, x2, x7, x9, x10, x77 => if x77 = true then (some false) else (refrainlaw4_untouched.l2 k x0 x1 x2 x7 x9 x10 0)
def refrainlaw4_untouched.l2 : Nat → List (List ByteArray) → List (List ByteArray) → List (List ByteArray) → Int → Int → Int → Int → Option (Bool)
  | 0, _, _, _, _, _, _, _ => none
  | k + 1, x0, x1, x2, x7, x9, x10, x11 => if x11 < 20 then (if 0 ≤ x9 then (if x9 < (x1.length : Int) then (if 0 ≤ (wrap64 (x10 + x11)) then (if (wrap64 (x10 + x11)) < ((rd_L1 x1 x9).length : Int) then ((refrainlaw4_word.f x11).bind fun t191 => (if (rdOf ByteArray.empty (rd_L1 x1 x9) (wrap64 (x10 + x11))).toList = t191.toList then (refrainlaw4_untouched.l2 k x0 x1 x2 x7 x9 x10 (wrap64 (x11 + 1))) else (some false))) else (none)) else (none)) else (none)) else (none)) else (refrainlaw4_untouched.l1 k x0 x1 x2 x7 (wrap64 (x9 + 1)))
end
def refrainlaw4_untouched.f (k : Nat) (l0 : List (List ByteArray)) (l1 : List (List ByteArray)) (l2 : List (List ByteArray)) : Option (Bool) := if (l0.length : Int) = (wrap64 ((l2.length : Int) + 20)) then (refrainlaw4_untouched.l0 k l0 l1 l2 (l2.length : Int) 0) else (some false)
set_option maxRecDepth 100000 in
theorem refrainlaw4_untouched.l0_zero : ∀ y0 y1 y2 y3 y4, refrainlaw4_untouched.l0 0 y0 y1 y2 y3 y4 = none := fun _ _ _ _ _ => rfl
set_option maxRecDepth 100000 in
theorem refrainlaw4_untouched.l1_zero : ∀ y0 y1 y2 y3 y4, refrainlaw4_untouched.l1 0 y0 y1 y2 y3 y4 = none := fun _ _ _ _ _ => rfl
set_option maxRecDepth 100000 in
theorem refrainlaw4_untouched.j2_zero : ∀ y0 y1 y2 y3 y4 y5 y6, refrainlaw4_untouched.j2 0 y0 y1 y2 y3 y4 y5 y6 = none := fun _ _ _ _ _ _ _ => rfl
set_option maxRecDepth 100000 in
theorem refrainlaw4_untouched.l2_zero : ∀ y0 y1 y2 y3 y4 y5 y6, refrainlaw4_untouched.l2 0 y0 y1 y2 y3 y4 y5 y6 = none := fun _ _ _ _ _ _ _ => rfl
set_option maxRecDepth 100000 in
theorem refrainlaw4_untouched.mono_l : ∀ k, (∀ y0 y1 y2 y3 y4, LeO (refrainlaw4_untouched.l0 k y0 y1 y2 y3 y4) (refrainlaw4_untouched.l0 (k + 1) y0 y1 y2 y3 y4)) ∧ (∀ y0 y1 y2 y3 y4, LeO (refrainlaw4_untouched.l1 k y0 y1 y2 y3 y4) (refrainlaw4_untouched.l1 (k + 1) y0 y1 y2 y3 y4)) ∧ (∀ y0 y1 y2 y3 y4 y5 y6, LeO (refrainlaw4_untouched.j2 k y0 y1 y2 y3 y4 y5 y6) (refrainlaw4_untouched.j2 (k + 1) y0 y1 y2 y3 y4 y5 y6)) ∧ (∀ y0 y1 y2 y3 y4 y5 y6, LeO (refrainlaw4_untouched.l2 k y0 y1 y2 y3 y4 y5 y6) (refrainlaw4_untouched.l2 (k + 1) y0 y1 y2 y3 y4 y5 y6))
  | 0 => ⟨fun _ _ _ _ _ r h => by (unfold refrainlaw4_untouched.l0 at h; cases h), fun _ _ _ _ _ r h => by (unfold refrainlaw4_untouched.l1 at h; cases h), fun _ _ _ _ _ _ _ r h => by (unfold refrainlaw4_untouched.j2 at h; cases h), fun _ _ _ _ _ _ _ r h => by (unfold refrainlaw4_untouched.l2 at h; cases h)⟩
  | k + 1 => by
    obtain ⟨ih0, ih1, ih2, ih3⟩ := refrainlaw4_untouched.mono_l k
    refine ⟨?_, ?_, ?_, ?_⟩
    · intro y0 y1 y2 y3 y4
      unfold refrainlaw4_untouched.l0
      repeat' first
      | (with_reducible exact ih0 _ _ _ _ _)
      | (with_reducible exact ih1 _ _ _ _ _)
      | (with_reducible exact ih2 _ _ _ _ _ _ _)
      | (with_reducible exact ih3 _ _ _ _ _ _ _)
      | (with_reducible exact refrainlaw4_sameRow.mono _ _ _)
      | (with_reducible exact LeO.refl _)
      | (with_reducible exact LeO.none _)
      | (with_reducible refine LeO.ite ?_ ?_)
      | (with_reducible refine LeO.bind ?_ (fun _ => ?_))
      | exact ih0 _ _ _ _ _
      | exact ih1 _ _ _ _ _
      | exact ih2 _ _ _ _ _ _ _
      | exact ih3 _ _ _ _ _ _ _
      | exact refrainlaw4_sameRow.mono _ _ _
      | exact LeO.none _
      | refine LeO.ite ?_ ?_
      | refine LeO.bind ?_ (fun _ => ?_)
    · intro y0 y1 y2 y3 y4
      unfold refrainlaw4_untouched.l1
      repeat' first
      | (with_reducible exact ih0 _ _ _ _ _)
      | (with_reducible exact ih1 _ _ _ _ _)
      | (with_reducible exact ih2 _ _ _ _ _ _ _)
      | (with_reducible exact ih3 _ _ _ _ _ _ _)
      | (with_reducible exact refrainlaw4_sameRow.mono _ _ _)
      | (with_reducible exact LeO.refl _)
      | (with_reducible exact LeO.none _)
      | (with_reducible refine LeO.ite ?_ ?_)
      | (with_reducible refine LeO.bind ?_ (fun _ => ?_))
      | exact ih0 _ _ _ _ _
      | exact ih1 _ _ _ _ _
      | exact ih2 _ _ _ _ _ _ _
      | exact ih3 _ _ _ _ _ _ _
      | exact refrainlaw4_sameRow.mono _ _ _
      | exact LeO.none _
      | refine LeO.ite ?_ ?_
      | refine LeO.bind ?_ (fun _ => ?_)
    · intro y0 y1 y2 y3 y4 y5 y6
      unfold refrainlaw4_untouched.j2
      repeat' first
      | (with_reducible exact ih0 _ _ _ _ _)
      | (with_reducible exact ih1 _ _ _ _ _)
      | (with_reducible exact ih2 _ _ _ _ _ _ _)
      | (with_reducible exact ih3 _ _ _ _ _ _ _)
      | (with_reducible exact refrainlaw4_sameRow.mono _ _ _)
      | (with_reducible exact LeO.refl _)
      | (with_reducible exact LeO.none _)
      | (with_reducible refine LeO.ite ?_ ?_)
      | (with_reducible refine LeO.bind ?_ (fun _ => ?_))
      | exact ih0 _ _ _ _ _
      | exact ih1 _ _ _ _ _
      | exact ih2 _ _ _ _ _ _ _
      | exact ih3 _ _ _ _ _ _ _
      | exact refrainlaw4_sameRow.mono _ _ _
      | exact LeO.none _
      | refine LeO.ite ?_ ?_
      | refine LeO.bind ?_ (fun _ => ?_)
    · intro y0 y1 y2 y3 y4 y5 y6
      unfold refrainlaw4_untouched.l2
      repeat' first
      | (with_reducible exact ih0 _ _ _ _ _)
      | (with_reducible exact ih1 _ _ _ _ _)
      | (with_reducible exact ih2 _ _ _ _ _ _ _)
      | (with_reducible exact ih3 _ _ _ _ _ _ _)
      | (with_reducible exact refrainlaw4_sameRow.mono _ _ _)
      | (with_reducible exact LeO.refl _)
      | (with_reducible exact LeO.none _)
      | (with_reducible refine LeO.ite ?_ ?_)
      | (with_reducible refine LeO.bind ?_ (fun _ => ?_))
      | exact ih0 _ _ _ _ _
      | exact ih1 _ _ _ _ _
      | exact ih2 _ _ _ _ _ _ _
      | exact ih3 _ _ _ _ _ _ _
      | exact refrainlaw4_sameRow.mono _ _ _
      | exact LeO.none _
      | refine LeO.ite ?_ ?_
      | refine LeO.bind ?_ (fun _ => ?_)
set_option maxRecDepth 100000 in
theorem refrainlaw4_untouched.mono : ∀ a0 a1 a2 k, LeO (refrainlaw4_untouched.f k a0 a1 a2) (refrainlaw4_untouched.f (k + 1) a0 a1 a2) := by
  intro a0 a1 a2 k
  obtain ⟨ih0, ih1, ih2, ih3⟩ := refrainlaw4_untouched.mono_l k
  unfold refrainlaw4_untouched.f
  repeat' first
      | (with_reducible exact ih0 _ _ _ _ _)
      | (with_reducible exact ih1 _ _ _ _ _)
      | (with_reducible exact ih2 _ _ _ _ _ _ _)
      | (with_reducible exact ih3 _ _ _ _ _ _ _)
      | (with_reducible exact refrainlaw4_sameRow.mono _ _ _)
      | (with_reducible exact LeO.refl _)
      | (with_reducible exact LeO.none _)
      | (with_reducible refine LeO.ite ?_ ?_)
      | (with_reducible refine LeO.bind ?_ (fun _ => ?_))
      | exact ih0 _ _ _ _ _
      | exact ih1 _ _ _ _ _
      | exact ih2 _ _ _ _ _ _ _
      | exact ih3 _ _ _ _ _ _ _
      | exact refrainlaw4_sameRow.mono _ _ _
      | exact LeO.none _
      | refine LeO.ite ?_ ?_
      | refine LeO.bind ?_ (fun _ => ?_)
def refrainlaw4_untouched.T7 : Bool × List (List Nat × List Nat) := (true, [([], []), ([], []), ([], []), ([1, 2], [1, 2]), ([0, 3], [0, 3]), ([4], [4]), ([5], [5]), ([6], [6]), ([7], [7]), ([8], [8]), ([8], [8]), ([8], [8]), ([10, 11, 8], [8, 10, 11]), ([9, 12, 8], [8, 9, 12]), ([13, 8], [8, 13]), ([14, 8], [8, 14]), ([15, 8], [8, 15]), ([8], [8]), ([17, 8, 8], [8, 17]), ([16, 18, 8], [8, 16, 18]), ([8, 19], [8, 19])])
def refrainlaw4_untouched.B7 : List Nat := [0, 0, 0, 6, 15, 31, 63, 127, 255, 511, 511, 511, 3583, 8191, 16383, 32767, 65535, 511, 131583, 524287, 1048575]
theorem refrainlaw4_untouched.tab7 : rtab .any (opsOf Tryd.f20 7) = refrainlaw4_untouched.T7 := by kernel_rfl
theorem refrainlaw4_untouched.bits7 : waitsOk refrainlaw4_untouched.T7.2 refrainlaw4_untouched.B7 = true := by kernel_rfl
def refrainlaw4_untouched.T13 : Bool × List (List Nat × List Nat) := (true, [([], []), ([], []), ([0, 1], [0, 1]), ([2], [2]), ([], []), ([], []), ([4, 5], [4, 5]), ([6], [6]), ([3, 7], [3, 7]), ([8], [8]), ([9, 8], [9]), ([10], [10]), ([10], [10]), ([11, 12, 10], [10, 11, 12]), ([13, 10], [10, 13]), ([10], [10]), ([14, 15, 10], [10, 14, 15]), ([10], [10]), ([10], [10]), ([17, 18, 10], [10, 17, 18]), ([19, 10], [10, 19]), ([16, 20, 10, 10], [10, 16, 20]), ([21, 10], [10, 21]), ([10, 22], [10, 22])])
def refrainlaw4_untouched.B13 : List Nat := [0, 0, 3, 7, 0, 0, 48, 112, 255, 511, 1023, 2047, 2047, 8191, 16383, 2047, 65535, 2047, 2047, 395263, 919551, 2097151, 4194303, 8388607]
theorem refrainlaw4_untouched.tab13 : rtab .any (opsOf Tryd.f20 13) = refrainlaw4_untouched.T13 := by kernel_rfl
theorem refrainlaw4_untouched.bits13 : waitsOk refrainlaw4_untouched.T13.2 refrainlaw4_untouched.B13 = true := by kernel_rfl
def refrainlaw4_untouched.T18 : Bool × List (List Nat × List Nat) := (true, [([], []), ([], []), ([0, 1], [0, 1]), ([2], [2]), ([], []), ([], []), ([4, 5], [4, 5]), ([3, 6], [3, 6]), ([7], [7]), ([], []), ([9], [9]), ([8, 10], [8, 10])])
def refrainlaw4_untouched.B18 : List Nat := [0, 0, 3, 7, 0, 0, 48, 127, 255, 0, 512, 2047]
theorem refrainlaw4_untouched.tab18 : rtab .any (opsOf Tryd.f20 18) = refrainlaw4_untouched.T18 := by kernel_rfl
theorem refrainlaw4_untouched.bits18 : waitsOk refrainlaw4_untouched.T18.2 refrainlaw4_untouched.B18 = true := by kernel_rfl
set_option maxHeartbeats 8000000 in
set_option maxRecDepth 100000 in
theorem refrainlaw4_untouched.calls (k : Nat) (A0 : Option Addr) (c0 : Nat) (l0 : List (List ByteArray)) (A1 : Option Addr) (c1 : Nat) (l1 : List (List ByteArray)) (A2 : Option Addr) (c2 : Nat) (l2 : List (List ByteArray)) (r : Bool) (w : World) (hr0 : Kd.C (Kd.slice 9 Kd.string) w A0 l0.length l0) (hc0 : l0.length ≤ c0) (hr1 : Kd.C (Kd.slice 9 Kd.string) w A1 l1.length l1) (hc1 : l1.length ≤ c1) (hr2 : Kd.C (Kd.slice 9 Kd.string) w A2 l2.length l2) (hc2 : l2.length ≤ c2) (h : refrainlaw4_untouched.f k l0 l1 l2 = some r) :
    Calls Tryd.prog 20 #[.slice A0 l0.length c0, .slice A1 l1.length c1, .slice A2 l2.length c2] w fun e w' => e = .returned (.bool r) ∧ Below w.heap.size w w' := by
  have HR0 := Aside0.mk hr0
  have HC0 := Aside0.mk hc0
  clear hr0 hc0
  have HR1 := Aside0.mk hr1
  have HC1 := Aside0.mk hc1
  clear hr1 hc1
  have HR2 := Aside0.mk hr2
  have HC2 := Aside0.mk hc2
  clear hr2 hc2
  have HB := Aside0.mk (Below.refl w.heap.size w)
  have H : (if (l0.length : Int) = (wrap64 ((l2.length : Int) + 20)) then (refrainlaw4_untouched.l0 k l0 l1 l2 (l2.length : Int) 0) else (some false)) = some r := h
  clear h
  by_cases c4 : (l0.length : Int) = (wrap64 ((l2.length : Int) + 20))
  · rw [if_pos c4] at H
    have c4b0 : ((l0.length : Int) == (wrap64 ((l2.length : Int) + 20))) = true := beq_iff_eq.mpr c4
    have c4b1 : ((l0.length : Int) != (wrap64 ((l2.length : Int) + 20))) = false := bne_eq_false_iff_eq.mpr c4
    clear c4
    have H' := Aside0.mk H
    clear H
    go_enter Tryd.func20, Tryd.ntmps20
    go_wp2
    go_loopg [8] k (fun kq v8 w' => ∃ (x8_1 : Int), v8 = .int .i64 x8_1 ∧ Aside0 (refrainlaw4_untouched.l0 kq l0 l1 l2 (l2.length : Int) x8_1 = some r) ∧ Aside0 (kq ≤ k) ∧ Aside0 (Below w.heap.size w w'))
    case atStart => exact ⟨(0), (by first | rfl | (simp; done) | (simp [*]; done) | (simp; unfold wrap64; omega) | (congr 1; (try rw [Bool.eq_iff_iff]); simp [List.isEmpty_iff]; done)), H', ⟨Nat.le_refl _⟩, ⟨hbT HB.out⟩⟩
    case round =>
      clear H'
      try clear c1
      try clear c2
      try clear p2
      try clear c4
      try clear c4b0
      try clear c4b1
      obtain ⟨x8_1, rfl, HA, HK1, HB⟩ := hrel
      cases gk with
      | zero => (have HA2 := HA.out; clear HA; revert HA2; rw [refrainlaw4_untouched.l0_zero]; intro h_; cases h_)
      | succ k1 =>
        have H := HA.out
        clear HA
        simp only [refrainlaw4_untouched.l0] at H
        by_cases c5 : x8_1 < 20
        · rw [if_pos c5] at H
          have c5b0 : decide (x8_1 < 20) = true := decide_eq_true c5
          clear c5
          obtain ⟨ji6, hji6⟩ : ∃ j_ : Int, (wrap64 ((l2.length : Int) + x8_1)) = j_ := ⟨_, rfl⟩
          replace H : (if 0 ≤ (ji6) then (if (ji6) < (l0.length : Int) then (if ((rd_L1 l0 (ji6)).length : Int) = 1 then (if 0 < ((rd_L1 l0 (ji6)).length : Int) then ((refrainlaw4_word.f x8_1).bind fun t180 => (if (rdOf ByteArray.empty (rd_L1 l0 (ji6)) 0).toList = t180.toList then (refrainlaw4_untouched.l0 k1 l0 l1 l2 (l2.length : Int) (wrap64 (x8_1 + 1))) else (some false))) else (none)) else (some false)) else (none)) else (none)) = some r := by first | (rw [hji6] at H; exact H) | (simp only [hji6] at H ⊢; exact H)
          have hji6w : (IntKind.i64.wrap ((l2.length : Int) + x8_1)) = ji6 := (i64_w _).trans hji6
          by_cases c7 : 0 ≤ (ji6)
          · rw [if_pos c7] at H
            have c7b0 : decide (0 ≤ (ji6)) = true := decide_eq_true c7
            clear c7
            by_cases c8 : (ji6) < (l0.length : Int)
            · rw [if_pos c8] at H
              have c8b0 : decide ((ji6) < (l0.length : Int)) = true := decide_eq_true c8
              clear c8
              by_cases c9 : ((rd_L1 l0 (ji6)).length : Int) = 1
              · rw [if_pos c9] at H
                have c9b0 : (((rd_L1 l0 (ji6)).length : Int) == 1) = true := beq_iff_eq.mpr c9
                have c9b1 : (((rd_L1 l0 (ji6)).length : Int) != 1) = false := bne_eq_false_iff_eq.mpr c9
                clear c9
                by_cases c10 : 0 < ((rd_L1 l0 (ji6)).length : Int)
                · rw [if_pos c10] at H
                  have c10b0 : decide (0 < ((rd_L1 l0 (ji6)).length : Int)) = true := decide_eq_true c10
                  have c10b1 : decide (0 < (rd_L1 l0 (ji6)).length) = true := decide_eq_true (by omega)
                  clear c10
                  replace H := Option.bind_eq_some_iff.mp H
                  obtain ⟨t180, A110, H⟩ := H
                  replace H : (if (rdOf ByteArray.empty (rd_L1 l0 (ji6)) 0).toList = t180.toList then (refrainlaw4_untouched.l0 k1 l0 l1 l2 (l2.length : Int) (wrap64 (x8_1 + 1))) else (some false)) = some r := H
                  have A11 := Aside0.mk A110
                  clear A110
                  by_cases c12 : (rdOf ByteArray.empty (rd_L1 l0 (ji6)) 0).toList = t180.toList
                  · rw [if_pos c12] at H
                    have c12b0 : ((rdOf ByteArray.empty (rd_L1 l0 (ji6)) 0).toList == t180.toList) = true := beq_iff_eq.mpr c12
                    have c12b1 : ((rdOf ByteArray.empty (rd_L1 l0 (ji6)) 0).toList != t180.toList) = false := bne_eq_false_iff_eq.mpr c12
                    clear c12
                    have H' := Aside0.mk H
                    clear H
                    try go_wp2
                    replace HB := Aside0.mk (below_drew1 HB.out)
                    have p177 : 0 ≤ ((ji6) : Int) := of_decide_eq_true (by first | (with_reducible assumption) | assumption)
                    have q177 : (ji6) < (l0.length : Int) := of_decide_eq_true (by first | (with_reducible assumption) | assumption)
                    obtain ⟨ad177, A177_0, c177_0, e177, hx177_0, hl177_0, hi177_0⟩ := at_L1 HR0.out (ji6) p177 q177
                    have hw177_0 := hx177_0
                    cases e177
                    replace hx177_0 := (HB.out.cell (World.block_lt_of_cell? w _ hx177_0)).trans hx177_0
                    have HR177_0 := Aside0.mk hi177_0
                    have HC177_0 := Aside0.mk hl177_0
                    clear hi177_0 hl177_0
                    replace p177 := eq_true p177
                    replace q177 := eq_true q177
                    have p178 : 0 ≤ ((ji6) : Int) := of_decide_eq_true (by first | (with_reducible assumption) | assumption)
                    have q178 : (ji6) < (l0.length : Int) := of_decide_eq_true (by first | (with_reducible assumption) | assumption)
                    obtain ⟨ad178, A178_0, c178_0, e178, hx178_0, hl178_0, hi178_0⟩ := at_L1 HR0.out (ji6) p178 q178
                    have hw178_0 := hx178_0
                    obtain rfl : ad177 = ad178 := (by injection e178)
                    replace hx178_0 := (HB.out.cell (World.block_lt_of_cell? w _ hx178_0)).trans hx178_0
                    have HR178_0 := Aside0.mk hi178_0
                    have HC178_0 := Aside0.mk hl178_0
                    clear hi178_0 hl178_0
                    replace p178 := eq_true p178
                    replace q178 := eq_true q178
                    have ea_ := Option.some.inj (hx177_0.symm.trans hx178_0)
                    injection ea_ with ea_ en_ ec_
                    subst ea_
                    subst ec_
                    clear en_
                    have p179 : 0 ≤ (0 : Int) := (by omega)
                    have q179 : 0 < ((rd_L1 l0 (ji6)).length : Int) := of_decide_eq_true (by first | (with_reducible assumption) | assumption)
                    obtain ⟨ad179, e179, hx179_0⟩ := Kd.at_string HR178_0.out 0 p179 q179
                    have hw179_0 := hx179_0
                    (try rw [show ((0 : Int)).toNat = 0 from rfl] at hw179_0)
                    (try rw [show 0 * 1 = 0 from rfl] at hw179_0)
                    (try rw [Addr.add_zero'] at hw179_0)
                    cases e179
                    have qi179 : (0 < (rd_L1 l0 (ji6)).length) = True := eq_true (by omega)
                    (try rw [show ((0 : Int)).toNat = 0 from rfl] at hx179_0)
                    (try rw [Addr.add_zero'] at hx179_0)
                    replace hx179_0 := (HB.out.cell (World.block_lt_of_cell? w _ hx179_0)).trans hx179_0
                    replace p179 := eq_true p179
                    replace q179 := eq_true q179
                    refine start_ (n := 21) (S := fun w' => w'.cell? (ad177.add ((ji6)).toNat) = some (.slice (some ad179) (rd_L1 l0 (ji6)).length c177_0) ∧ w'.cell? (ad177.add ((ji6)).toNat) = some (.slice (some ad179) (rd_L1 l0 (ji6)).length c177_0) ∧ w'.cell? ad179 = some (.string (rdOf ByteArray.empty (rd_L1 l0 (ji6)) 0))) (ds := []) #[false, false, false, false, false, false, false, false, false, false, false, false, false, false, false, false, false, false, false, false, false] (by kernel_rfl) rfl rfl ⟨((HB.out.cell (World.block_lt_of_cell? w _ hw177_0)).trans hw177_0), ((HB.out.cell (World.block_lt_of_cell? w _ hw178_0)).trans hw178_0), ((HB.out.cell (World.block_lt_of_cell? w _ hw179_0)).trans hw179_0)⟩ (fun hHeld => ?_); refine with_tabW refrainlaw4_untouched.tab7 refrainlaw4_untouched.bits7 (fun HT_ HW_ => ?_)
                    generalize wr.drew = w13 at HB HR177_0 HR178_0 hx177_0 hx178_0 hx179_0 hHeld ⊢
                    refine pure_ (i := 0) (N := some 23) (v := ?_) (a' := ?_) #[true, false, false, false, false, false, false, false, false, false, false, false, false, false, false, false, false, false, false, false, false] rfl rfl (any_of HT_.out (by kernel_rfl)) (fun _ _ _ h => h) (Or.inl ⟨by rfl, ?_⟩) ?_ ?_
                    rotate_left; (focus (intro w'; go_simp; with_reducible rfl)); rotate_left; (focus (simp only [Act.put, List.setIfInBounds_toArray, List.set_cons_zero, List.set_cons_succ, i64_w, i32_w, IntKind.wrap_u8, IntKind.wrap_u16, IntKind.wrap_u32]; rfl))
                    refine pure_ (i := 1) (N := some 24) (v := ?_) (a' := ?_) #[true, true, false, false, false, false, false, false, false, false, false, false, false, false, false, false, false, false, false, false, false] rfl rfl (any_of HT_.out (by kernel_rfl)) (fun _ _ _ h => h) (Or.inl ⟨by rfl, ?_⟩) ?_ ?_
                    rotate_left; (focus (intro w'; go_simp; with_reducible rfl)); rotate_left; (focus (simp only [Act.put, List.setIfInBounds_toArray, List.set_cons_zero, List.set_cons_succ, i64_w, i32_w, IntKind.wrap_u8, IntKind.wrap_u16, IntKind.wrap_u32]; rfl))
                    refine pure_ (i := 2) (N := some 25) (v := ?_) (a' := ?_) #[true, true, true, false, false, false, false, false, false, false, false, false, false, false, false, false, false, false, false, false, false] rfl rfl (any_of HT_.out (by kernel_rfl)) (fun _ _ _ h => h) (Or.inl ⟨by rfl, ?_⟩) ?_ ?_
                    rotate_left; (focus (intro w'; go_simp; with_reducible rfl)); rotate_left; (focus (simp only [Act.put, List.setIfInBounds_toArray, List.set_cons_zero, List.set_cons_succ, i64_w, i32_w, IntKind.wrap_u8, IntKind.wrap_u16, IntKind.wrap_u32]; rfl))
                    refine pure_ (i := 3) (N := some 26) (v := ?_) (a' := ?_) #[true, true, true, true, false, false, false, false, false, false, false, false, false, false, false, false, false, false, false, false, false] rfl rfl (any_of HT_.out (by kernel_rfl)) (fun _ _ _ h => h) (Or.inl ⟨by rfl, ?_⟩) ?_ ?_
                    rotate_left; (focus (intro w'; go_simp; with_reducible rfl)); rotate_left; (focus (simp only [Act.put, List.setIfInBounds_toArray, List.set_cons_zero, List.set_cons_succ, i64_w, i32_w, IntKind.wrap_u8, IntKind.wrap_u16, IntKind.wrap_u32]; rfl))
                    refine pure_ (i := 4) (N := some 27) (v := ?_) (a' := ?_) #[true, true, true, true, true, false, false, false, false, false, false, false, false, false, false, false, false, false, false, false, false] rfl rfl (any_of HT_.out (by kernel_rfl)) (fun _ _ _ h => h) (Or.inl ⟨by rfl, ?_⟩) ?_ ?_
                    rotate_left; (focus (intro w'; go_simp; with_reducible rfl)); rotate_left; (focus (simp only [Act.put, List.setIfInBounds_toArray, List.set_cons_zero, List.set_cons_succ, i64_w, i32_w, IntKind.wrap_u8, IntKind.wrap_u16, IntKind.wrap_u32]; rfl))
                    refine take_ (i := 5) (N := some 28) (v := ?_) (a' := ?_) #[true, true, true, true, true, true, false, false, false, false, false, false, false, false, false, false, false, false, false, false, false] rfl rfl (take_ofW HT_.out HW_.out (by kernel_rfl)) (fun _ _ _ h => h) (Or.inl ⟨by rfl, ?_⟩) hHeld ?_ ?_
                    rotate_left; (focus (rintro w' ⟨s0, s1, s2⟩; go_simp; with_reducible rfl)); rotate_left; (focus (simp only [Act.put, List.setIfInBounds_toArray, List.set_cons_zero, List.set_cons_succ, i64_w, i32_w, IntKind.wrap_u8, IntKind.wrap_u16, IntKind.wrap_u32]; rfl))
                    refine pure_ (i := 6) (N := some 29) (v := ?_) (a' := ?_) #[true, true, true, true, true, true, true, false, false, false, false, false, false, false, false, false, false, false, false, false, false] rfl rfl (any_of HT_.out (by kernel_rfl)) (fun _ _ _ h => h) (Or.inl ⟨by rfl, ?_⟩) ?_ ?_
                    rotate_left; (focus (intro w'; go_simp; with_reducible rfl)); rotate_left; (focus (simp only [Act.put, List.setIfInBounds_toArray, List.set_cons_zero, List.set_cons_succ, i64_w, i32_w, IntKind.wrap_u8, IntKind.wrap_u16, IntKind.wrap_u32]; rfl))
                    refine pure_ (i := 7) (N := some 30) (v := ?_) (a' := ?_) #[true, true, true, true, true, true, true, true, false, false, false, false, false, false, false, false, false, false, false, false, false] rfl rfl (any_of HT_.out (by kernel_rfl)) (fun _ _ _ h => h) (Or.inl ⟨by rfl, ?_⟩) ?_ ?_
                    rotate_left; (focus (intro w'; go_simp; with_reducible rfl)); rotate_left; (focus (simp only [Act.put, List.setIfInBounds_toArray, List.set_cons_zero, List.set_cons_succ, i64_w, i32_w, IntKind.wrap_u8, IntKind.wrap_u16, IntKind.wrap_u32]; rfl))
                    refine pure_ (i := 8) (N := some 31) (v := ?_) (a' := ?_) #[true, true, true, true, true, true, true, true, true, false, false, false, false, false, false, false, false, false, false, false, false] rfl rfl (any_of HT_.out (by kernel_rfl)) (fun _ _ _ h => h) (Or.inl ⟨by rfl, ?_⟩) ?_ ?_
                    rotate_left; (focus (intro w'; go_simp; with_reducible rfl)); rotate_left; (focus (simp only [Act.put, List.setIfInBounds_toArray, List.set_cons_zero, List.set_cons_succ, i64_w, i32_w, IntKind.wrap_u8, IntKind.wrap_u16, IntKind.wrap_u32]; rfl))
                    refine pure_ (i := 9) (N := some 32) (v := ?_) (a' := ?_) #[true, true, true, true, true, true, true, true, true, true, false, false, false, false, false, false, false, false, false, false, false] rfl rfl (any_of HT_.out (by kernel_rfl)) (fun _ _ _ h => h) (Or.inl ⟨by rfl, ?_⟩) ?_ ?_
                    rotate_left; (focus (intro w'; go_simp; with_reducible rfl)); rotate_left; (focus (simp only [Act.put, List.setIfInBounds_toArray, List.set_cons_zero, List.set_cons_succ, i64_w, i32_w, IntKind.wrap_u8, IntKind.wrap_u16, IntKind.wrap_u32]; rfl))
                    refine pure_ (i := 10) (N := some 33) (v := ?_) (a' := ?_) #[true, true, true, true, true, true, true, true, true, true, true, false, false, false, false, false, false, false, false, false, false] rfl rfl (any_of HT_.out (by kernel_rfl)) (fun _ _ _ h => h) (Or.inl ⟨by rfl, ?_⟩) ?_ ?_
                    rotate_left; (focus (intro w'; go_simp; with_reducible rfl)); rotate_left; (focus (simp only [Act.put, List.setIfInBounds_toArray, List.set_cons_zero, List.set_cons_succ, i64_w, i32_w, IntKind.wrap_u8, IntKind.wrap_u16, IntKind.wrap_u32]; rfl))
                    refine pure_ (i := 11) (N := some 34) (v := ?_) (a' := ?_) #[true, true, true, true, true, true, true, true, true, true, true, true, false, false, false, false, false, false, false, false, false] rfl rfl (any_of HT_.out (by kernel_rfl)) (fun _ _ _ h => h) (Or.inl ⟨by rfl, ?_⟩) ?_ ?_
                    rotate_left; (focus (intro w'; go_simp; with_reducible rfl)); rotate_left; (focus (simp only [Act.put, List.setIfInBounds_toArray, List.set_cons_zero, List.set_cons_succ, i64_w, i32_w, IntKind.wrap_u8, IntKind.wrap_u16, IntKind.wrap_u32]; rfl))
                    refine pure_ (i := 12) (N := some 35) (v := ?_) (a' := ?_) #[true, true, true, true, true, true, true, true, true, true, true, true, true, false, false, false, false, false, false, false, false] rfl rfl (any_of HT_.out (by kernel_rfl)) (fun _ _ _ h => h) (Or.inl ⟨by rfl, ?_⟩) ?_ ?_
                    rotate_left; (focus (intro w'; go_simp; with_reducible rfl)); rotate_left; (focus (simp only [Act.put, List.setIfInBounds_toArray, List.set_cons_zero, List.set_cons_succ, i64_w, i32_w, IntKind.wrap_u8, IntKind.wrap_u16, IntKind.wrap_u32]; rfl))
                    refine pure_ (i := 13) (N := some 36) (v := ?_) (a' := ?_) #[true, true, true, true, true, true, true, true, true, true, true, true, true, true, false, false, false, false, false, false, false] rfl rfl (any_of HT_.out (by kernel_rfl)) (fun _ _ _ h => h) (Or.inl ⟨by rfl, ?_⟩) ?_ ?_
                    rotate_left; (focus (intro w'; go_simp; with_reducible rfl)); rotate_left; (focus (simp only [Act.put, List.setIfInBounds_toArray, List.set_cons_zero, List.set_cons_succ, i64_w, i32_w, IntKind.wrap_u8, IntKind.wrap_u16, IntKind.wrap_u32]; rfl))
                    refine pure_ (i := 17) (N := some 40) (v := ?_) (a' := ?_) #[true, true, true, true, true, true, true, true, true, true, true, true, true, true, false, false, false, true, false, false, false] rfl rfl (any_of HT_.out (by kernel_rfl)) (fun _ _ _ h => h) (Or.inl ⟨by rfl, ?_⟩) ?_ ?_
                    rotate_left; (focus (intro w'; go_simp; with_reducible rfl)); rotate_left; (focus (simp only [Act.put, List.setIfInBounds_toArray, List.set_cons_zero, List.set_cons_succ, i64_w, i32_w, IntKind.wrap_u8, IntKind.wrap_u16, IntKind.wrap_u32]; rfl))
                    refine take_ (i := 14) (N := some 37) (v := ?_) (a' := ?_) #[true, true, true, true, true, true, true, true, true, true, true, true, true, true, true, false, false, true, false, false, false] rfl rfl (take_ofW HT_.out HW_.out (by kernel_rfl)) (fun _ _ _ h => h) (Or.inl ⟨by rfl, ?_⟩) hHeld ?_ ?_
                    rotate_left; (focus (rintro w' ⟨s0, s1, s2⟩; go_simp; with_reducible rfl)); rotate_left; (focus (simp only [Act.put, List.setIfInBounds_toArray, List.set_cons_zero, List.set_cons_succ, i64_w, i32_w, IntKind.wrap_u8, IntKind.wrap_u16, IntKind.wrap_u32]; rfl))
                    refine pure_ (i := 15) (N := some 38) (v := ?_) (a' := ?_) #[true, true, true, true, true, true, true, true, true, true, true, true, true, true, true, true, false, true, false, false, false] rfl rfl (any_of HT_.out (by kernel_rfl)) (fun _ _ _ h => h) (Or.inl ⟨by rfl, ?_⟩) ?_ ?_
                    rotate_left; (focus (intro w'; go_simp; with_reducible rfl)); rotate_left; (focus (simp only [Act.put, List.setIfInBounds_toArray, List.set_cons_zero, List.set_cons_succ, i64_w, i32_w, IntKind.wrap_u8, IntKind.wrap_u16, IntKind.wrap_u32]; rfl))
                    refine take_ (i := 16) (N := some 39) (v := ?_) (a' := ?_) #[true, true, true, true, true, true, true, true, true, true, true, true, true, true, true, true, true, true, false, false, false] rfl rfl (take_ofW HT_.out HW_.out (by kernel_rfl)) (fun _ _ _ h => h) (Or.inl ⟨by rfl, ?_⟩) hHeld ?_ ?_
                    rotate_left; (focus (rintro w' ⟨s0, s1, s2⟩; go_simp; with_reducible rfl)); rotate_left; (focus (simp only [Act.put, List.setIfInBounds_toArray, List.set_cons_zero, List.set_cons_succ, i64_w, i32_w, IntKind.wrap_u8, IntKind.wrap_u16, IntKind.wrap_u32]; rfl))
                    refine one_ (i := 18) (N := some 41) #[true, true, true, true, true, true, true, true, true, true, true, true, true, true, true, true, true, true, true, false, false] rfl rfl (one_of HT_.out (by kernel_rfl)) (by decide) (fun K hK => ?_)
                    refine goes_ Tryd.func38 (by kernel_rfl) rfl #[.int .i64 x8_1] (by rfl) rfl rfl (by (try simp only [List.map_toArray, List.map_cons, List.map_nil]); first | done | rfl | (simp only [List.length_drop, List.length_take]; rfl)) ?_
                    with_reducible refine (refrainlaw4_word.calls x8_1 t180 _ A11.out).mono ?_
                    rintro e w14 ⟨rfl, hb⟩
                    refine ⟨_, rfl, ?_⟩
                    replace HB := bsA HB hb
                    (try clear hb); (try clear hb2); (try clear hk); (try clear hi)
                    refine hK.out _ _ ⟨((HB.out.cell (World.block_lt_of_cell? w _ hw177_0)).trans hw177_0), ((HB.out.cell (World.block_lt_of_cell? w _ hw178_0)).trans hw178_0), ((HB.out.cell (World.block_lt_of_cell? w _ hw179_0)).trans hw179_0)⟩ (fun hHeld => ?_)
                    clear hK K
                    refine norm_ (a' := ?_) ?_ ?_
                    rotate_left
                    · show Act.put _ (some 41) _ = _
                      simp only [Act.put, List.setIfInBounds_toArray, List.set_cons_zero, List.set_cons_succ, i64_w, i32_w, IntKind.wrap_u8, IntKind.wrap_u16, IntKind.wrap_u32]
                      rfl
                    refine pure_ (i := 19) (N := some 42) (v := ?_) (a' := ?_) #[true, true, true, true, true, true, true, true, true, true, true, true, true, true, true, true, true, true, true, true, false] rfl rfl (any_of HT_.out (by kernel_rfl)) (fun _ _ _ h => h) (Or.inl ⟨by rfl, ?_⟩) ?_ ?_
                    rotate_left; (focus (intro w'; go_simp; with_reducible rfl)); rotate_left; (focus (simp only [Act.put, List.setIfInBounds_toArray, List.set_cons_zero, List.set_cons_succ, i64_w, i32_w, IntKind.wrap_u8, IntKind.wrap_u16, IntKind.wrap_u32]; rfl))
                    refine pure_ (i := 20) (N := some 43) (v := ?_) (a' := ?_) #[true, true, true, true, true, true, true, true, true, true, true, true, true, true, true, true, true, true, true, true, true] rfl rfl (any_of HT_.out (by kernel_rfl)) (fun _ _ _ h => h) (Or.inl ⟨by rfl, ?_⟩) ?_ ?_
                    rotate_left; (focus (intro w'; go_simp; with_reducible rfl)); rotate_left; (focus (simp only [Act.put, List.setIfInBounds_toArray, List.set_cons_zero, List.set_cons_succ, i64_w, i32_w, IntKind.wrap_u8, IntKind.wrap_u16, IntKind.wrap_u32]; rfl))
                    refine done_ (done_of HT_.out (by kernel_rfl)) ?_
                    try go_wp2
                    go_roundg k1
                    case measure => have := HK1.out; omega
                    case rel => exact ⟨(wrap64 (x8_1 + 1)), (by first | rfl | (simp; done) | (simp [*]; done) | (simp; unfold wrap64; omega) | (congr 1; (try rw [Bool.eq_iff_iff]); simp [List.isEmpty_iff]; done)), H', ⟨by have := HK1.out; omega⟩, ⟨hbT HB.out⟩⟩
                  · rw [if_neg c12] at H
                    have c12b0 : ((rdOf ByteArray.empty (rd_L1 l0 (ji6)) 0).toList == t180.toList) = false := beq_eq_false_iff_ne.mpr c12
                    have c12b1 : ((rdOf ByteArray.empty (rd_L1 l0 (ji6)) 0).toList != t180.toList) = true := bne_iff_ne.mpr c12
                    obtain rfl := Option.some.inj H
                    try go_wp2
                    replace HB := Aside0.mk (below_drew1 HB.out)
                    have p177 : 0 ≤ ((ji6) : Int) := of_decide_eq_true (by first | (with_reducible assumption) | assumption)
                    have q177 : (ji6) < (l0.length : Int) := of_decide_eq_true (by first | (with_reducible assumption) | assumption)
                    obtain ⟨ad177, A177_0, c177_0, e177, hx177_0, hl177_0, hi177_0⟩ := at_L1 HR0.out (ji6) p177 q177
                    have hw177_0 := hx177_0
                    cases e177
                    replace hx177_0 := (HB.out.cell (World.block_lt_of_cell? w _ hx177_0)).trans hx177_0
                    have HR177_0 := Aside0.mk hi177_0
                    have HC177_0 := Aside0.mk hl177_0
                    clear hi177_0 hl177_0
                    replace p177 := eq_true p177
                    replace q177 := eq_true q177
                    have p178 : 0 ≤ ((ji6) : Int) := of_decide_eq_true (by first | (with_reducible assumption) | assumption)
                    have q178 : (ji6) < (l0.length : Int) := of_decide_eq_true (by first | (with_reducible assumption) | assumption)
                    obtain ⟨ad178, A178_0, c178_0, e178, hx178_0, hl178_0, hi178_0⟩ := at_L1 HR0.out (ji6) p178 q178
                    have hw178_0 := hx178_0
                    obtain rfl : ad177 = ad178 := (by injection e178)
                    replace hx178_0 := (HB.out.cell (World.block_lt_of_cell? w _ hx178_0)).trans hx178_0
                    have HR178_0 := Aside0.mk hi178_0
                    have HC178_0 := Aside0.mk hl178_0
                    clear hi178_0 hl178_0
                    replace p178 := eq_true p178
                    replace q178 := eq_true q178
                    have ea_ := Option.some.inj (hx177_0.symm.trans hx178_0)
                    injection ea_ with ea_ en_ ec_
                    subst ea_
                    subst ec_
                    clear en_
                    have p179 : 0 ≤ (0 : Int) := (by omega)
                    have q179 : 0 < ((rd_L1 l0 (ji6)).length : Int) := of_decide_eq_true (by first | (with_reducible assumption) | assumption)
                    obtain ⟨ad179, e179, hx179_0⟩ := Kd.at_string HR178_0.out 0 p179 q179
                    have hw179_0 := hx179_0
                    (try rw [show ((0 : Int)).toNat = 0 from rfl] at hw179_0)
                    (try rw [show 0 * 1 = 0 from rfl] at hw179_0)
                    (try rw [Addr.add_zero'] at hw179_0)
                    cases e179
                    have qi179 : (0 < (rd_L1 l0 (ji6)).length) = True := eq_true (by omega)
                    (try rw [show ((0 : Int)).toNat = 0 from rfl] at hx179_0)
                    (try rw [Addr.add_zero'] at hx179_0)
                    replace hx179_0 := (HB.out.cell (World.block_lt_of_cell? w _ hx179_0)).trans hx179_0
                    replace p179 := eq_true p179
                    replace q179 := eq_true q179
                    refine start_ (n := 21) (S := fun w' => w'.cell? (ad177.add ((ji6)).toNat) = some (.slice (some ad179) (rd_L1 l0 (ji6)).length c177_0) ∧ w'.cell? (ad177.add ((ji6)).toNat) = some (.slice (some ad179) (rd_L1 l0 (ji6)).length c177_0) ∧ w'.cell? ad179 = some (.string (rdOf ByteArray.empty (rd_L1 l0 (ji6)) 0))) (ds := []) #[false, false, false, false, false, false, false, false, false, false, false, false, false, false, false, false, false, false, false, false, false] (by kernel_rfl) rfl rfl ⟨((HB.out.cell (World.block_lt_of_cell? w _ hw177_0)).trans hw177_0), ((HB.out.cell (World.block_lt_of_cell? w _ hw178_0)).trans hw178_0), ((HB.out.cell (World.block_lt_of_cell? w _ hw179_0)).trans hw179_0)⟩ (fun hHeld => ?_); refine with_tabW refrainlaw4_untouched.tab7 refrainlaw4_untouched.bits7 (fun HT_ HW_ => ?_)
                    generalize wr.drew = w15 at HB HR177_0 HR178_0 hx177_0 hx178_0 hx179_0 hHeld ⊢
                    refine pure_ (i := 0) (N := some 23) (v := ?_) (a' := ?_) #[true, false, false, false, false, false, false, false, false, false, false, false, false, false, false, false, false, false, false, false, false] rfl rfl (any_of HT_.out (by kernel_rfl)) (fun _ _ _ h => h) (Or.inl ⟨by rfl, ?_⟩) ?_ ?_
                    rotate_left; (focus (intro w'; go_simp; with_reducible rfl)); rotate_left; (focus (simp only [Act.put, List.setIfInBounds_toArray, List.set_cons_zero, List.set_cons_succ, i64_w, i32_w, IntKind.wrap_u8, IntKind.wrap_u16, IntKind.wrap_u32]; rfl))
                    refine pure_ (i := 1) (N := some 24) (v := ?_) (a' := ?_) #[true, true, false, false, false, false, false, false, false, false, false, false, false, false, false, false, false, false, false, false, false] rfl rfl (any_of HT_.out (by kernel_rfl)) (fun _ _ _ h => h) (Or.inl ⟨by rfl, ?_⟩) ?_ ?_
                    rotate_left; (focus (intro w'; go_simp; with_reducible rfl)); rotate_left; (focus (simp only [Act.put, List.setIfInBounds_toArray, List.set_cons_zero, List.set_cons_succ, i64_w, i32_w, IntKind.wrap_u8, IntKind.wrap_u16, IntKind.wrap_u32]; rfl))
                    refine pure_ (i := 2) (N := some 25) (v := ?_) (a' := ?_) #[true, true, true, false, false, false, false, false, false, false, false, false, false, false, false, false, false, false, false, false, false] rfl rfl (any_of HT_.out (by kernel_rfl)) (fun _ _ _ h => h) (Or.inl ⟨by rfl, ?_⟩) ?_ ?_
                    rotate_left; (focus (intro w'; go_simp; with_reducible rfl)); rotate_left; (focus (simp only [Act.put, List.setIfInBounds_toArray, List.set_cons_zero, List.set_cons_succ, i64_w, i32_w, IntKind.wrap_u8, IntKind.wrap_u16, IntKind.wrap_u32]; rfl))
                    refine pure_ (i := 3) (N := some 26) (v := ?_) (a' := ?_) #[true, true, true, true, false, false, false, false, false, false, false, false, false, false, false, false, false, false, false, false, false] rfl rfl (any_of HT_.out (by kernel_rfl)) (fun _ _ _ h => h) (Or.inl ⟨by rfl, ?_⟩) ?_ ?_
                    rotate_left; (focus (intro w'; go_simp; with_reducible rfl)); rotate_left; (focus (simp only [Act.put, List.setIfInBounds_toArray, List.set_cons_zero, List.set_cons_succ, i64_w, i32_w, IntKind.wrap_u8, IntKind.wrap_u16, IntKind.wrap_u32]; rfl))
                    refine pure_ (i := 4) (N := some 27) (v := ?_) (a' := ?_) #[true, true, true, true, true, false, false, false, false, false, false, false, false, false, false, false, false, false, false, false, false] rfl rfl (any_of HT_.out (by kernel_rfl)) (fun _ _ _ h => h) (Or.inl ⟨by rfl, ?_⟩) ?_ ?_
                    rotate_left; (focus (intro w'; go_simp; with_reducible rfl)); rotate_left; (focus (simp only [Act.put, List.setIfInBounds_toArray, List.set_cons_zero, List.set_cons_succ, i64_w, i32_w, IntKind.wrap_u8, IntKind.wrap_u16, IntKind.wrap_u32]; rfl))
                    refine take_ (i := 5) (N := some 28) (v := ?_) (a' := ?_) #[true, true, true, true, true, true, false, false, false, false, false, false, false, false, false, false, false, false, false, false, false] rfl rfl (take_ofW HT_.out HW_.out (by kernel_rfl)) (fun _ _ _ h => h) (Or.inl ⟨by rfl, ?_⟩) hHeld ?_ ?_
                    rotate_left; (focus (rintro w' ⟨s0, s1, s2⟩; go_simp; with_reducible rfl)); rotate_left; (focus (simp only [Act.put, List.setIfInBounds_toArray, List.set_cons_zero, List.set_cons_succ, i64_w, i32_w, IntKind.wrap_u8, IntKind.wrap_u16, IntKind.wrap_u32]; rfl))
                    refine pure_ (i := 6) (N := some 29) (v := ?_) (a' := ?_) #[true, true, true, true, true, true, true, false, false, false, false, false, false, false, false, false, false, false, false, false, false] rfl rfl (any_of HT_.out (by kernel_rfl)) (fun _ _ _ h => h) (Or.inl ⟨by rfl, ?_⟩) ?_ ?_
                    rotate_left; (focus (intro w'; go_simp; with_reducible rfl)); rotate_left; (focus (simp only [Act.put, List.setIfInBounds_toArray, List.set_cons_zero, List.set_cons_succ, i64_w, i32_w, IntKind.wrap_u8, IntKind.wrap_u16, IntKind.wrap_u32]; rfl))
                    refine pure_ (i := 7) (N := some 30) (v := ?_) (a' := ?_) #[true, true, true, true, true, true, true, true, false, false, false, false, false, false, false, false, false, false, false, false, false] rfl rfl (any_of HT_.out (by kernel_rfl)) (fun _ _ _ h => h) (Or.inl ⟨by rfl, ?_⟩) ?_ ?_
                    rotate_left; (focus (intro w'; go_simp; with_reducible rfl)); rotate_left; (focus (simp only [Act.put, List.setIfInBounds_toArray, List.set_cons_zero, List.set_cons_succ, i64_w, i32_w, IntKind.wrap_u8, IntKind.wrap_u16, IntKind.wrap_u32]; rfl))
                    refine pure_ (i := 8) (N := some 31) (v := ?_) (a' := ?_) #[true, true, true, true, true, true, true, true, true, false, false, false, false, false, false, false, false, false, false, false, false] rfl rfl (any_of HT_.out (by kernel_rfl)) (fun _ _ _ h => h) (Or.inl ⟨by rfl, ?_⟩) ?_ ?_
                    rotate_left; (focus (intro w'; go_simp; with_reducible rfl)); rotate_left; (focus (simp only [Act.put, List.setIfInBounds_toArray, List.set_cons_zero, List.set_cons_succ, i64_w, i32_w, IntKind.wrap_u8, IntKind.wrap_u16, IntKind.wrap_u32]; rfl))
                    refine pure_ (i := 9) (N := some 32) (v := ?_) (a' := ?_) #[true, true, true, true, true, true, true, true, true, true, false, false, false, false, false, false, false, false, false, false, false] rfl rfl (any_of HT_.out (by kernel_rfl)) (fun _ _ _ h => h) (Or.inl ⟨by rfl, ?_⟩) ?_ ?_
                    rotate_left; (focus (intro w'; go_simp; with_reducible rfl)); rotate_left; (focus (simp only [Act.put, List.setIfInBounds_toArray, List.set_cons_zero, List.set_cons_succ, i64_w, i32_w, IntKind.wrap_u8, IntKind.wrap_u16, IntKind.wrap_u32]; rfl))
                    refine pure_ (i := 10) (N := some 33) (v := ?_) (a' := ?_) #[true, true, true, true, true, true, true, true, true, true, true, false, false, false, false, false, false, false, false, false, false] rfl rfl (any_of HT_.out (by kernel_rfl)) (fun _ _ _ h => h) (Or.inl ⟨by rfl, ?_⟩) ?_ ?_
                    rotate_left; (focus (intro w'; go_simp; with_reducible rfl)); rotate_left; (focus (simp only [Act.put, List.setIfInBounds_toArray, List.set_cons_zero, List.set_cons_succ, i64_w, i32_w, IntKind.wrap_u8, IntKind.wrap_u16, IntKind.wrap_u32]; rfl))
                    refine pure_ (i := 11) (N := some 34) (v := ?_) (a' := ?_) #[true, true, true, true, true, true, true, true, true, true, true, true, false, false, false, false, false, false, false, false, false] rfl rfl (any_of HT_.out (by kernel_rfl)) (fun _ _ _ h => h) (Or.inl ⟨by rfl, ?_⟩) ?_ ?_
                    rotate_left; (focus (intro w'; go_simp; with_reducible rfl)); rotate_left; (focus (simp only [Act.put, List.setIfInBounds_toArray, List.set_cons_zero, List.set_cons_succ, i64_w, i32_w, IntKind.wrap_u8, IntKind.wrap_u16, IntKind.wrap_u32]; rfl))
                    refine pure_ (i := 12) (N := some 35) (v := ?_) (a' := ?_) #[true, true, true, true, true, true, true, true, true, true, true, true, true, false, false, false, false, false, false, false, false] rfl rfl (any_of HT_.out (by kernel_rfl)) (fun _ _ _ h => h) (Or.inl ⟨by rfl, ?_⟩) ?_ ?_
                    rotate_left; (focus (intro w'; go_simp; with_reducible rfl)); rotate_left; (focus (simp only [Act.put, List.setIfInBounds_toArray, List.set_cons_zero, List.set_cons_succ, i64_w, i32_w, IntKind.wrap_u8, IntKind.wrap_u16, IntKind.wrap_u32]; rfl))
                    refine pure_ (i := 13) (N := some 36) (v := ?_) (a' := ?_) #[true, true, true, true, true, true, true, true, true, true, true, true, true, true, false, false, false, false, false, false, false] rfl rfl (any_of HT_.out (by kernel_rfl)) (fun _ _ _ h => h) (Or.inl ⟨by rfl, ?_⟩) ?_ ?_
                    rotate_left; (focus (intro w'; go_simp; with_reducible rfl)); rotate_left; (focus (simp only [Act.put, List.setIfInBounds_toArray, List.set_cons_zero, List.set_cons_succ, i64_w, i32_w, IntKind.wrap_u8, IntKind.wrap_u16, IntKind.wrap_u32]; rfl))
                    refine pure_ (i := 17) (N := some 40) (v := ?_) (a' := ?_) #[true, true, true, true, true, true, true, true, true, true, true, true, true, true, false, false, false, true, false, false, false] rfl rfl (any_of HT_.out (by kernel_rfl)) (fun _ _ _ h => h) (Or.inl ⟨by rfl, ?_⟩) ?_ ?_
                    rotate_left; (focus (intro w'; go_simp; with_reducible rfl)); rotate_left; (focus (simp only [Act.put, List.setIfInBounds_toArray, List.set_cons_zero, List.set_cons_succ, i64_w, i32_w, IntKind.wrap_u8, IntKind.wrap_u16, IntKind.wrap_u32]; rfl))
                    refine take_ (i := 14) (N := some 37) (v := ?_) (a' := ?_) #[true, true, true, true, true, true, true, true, true, true, true, true, true, true, true, false, false, true, false, false, false] rfl rfl (take_ofW HT_.out HW_.out (by kernel_rfl)) (fun _ _ _ h => h) (Or.inl ⟨by rfl, ?_⟩) hHeld ?_ ?_
                    rotate_left; (focus (rintro w' ⟨s0, s1, s2⟩; go_simp; with_reducible rfl)); rotate_left; (focus (simp only [Act.put, List.setIfInBounds_toArray, List.set_cons_zero, List.set_cons_succ, i64_w, i32_w, IntKind.wrap_u8, IntKind.wrap_u16, IntKind.wrap_u32]; rfl))
                    refine pure_ (i := 15) (N := some 38) (v := ?_) (a' := ?_) #[true, true, true, true, true, true, true, true, true, true, true, true, true, true, true, true, false, true, false, false, false] rfl rfl (any_of HT_.out (by kernel_rfl)) (fun _ _ _ h => h) (Or.inl ⟨by rfl, ?_⟩) ?_ ?_
                    rotate_left; (focus (intro w'; go_simp; with_reducible rfl)); rotate_left; (focus (simp only [Act.put, List.setIfInBounds_toArray, List.set_cons_zero, List.set_cons_succ, i64_w, i32_w, IntKind.wrap_u8, IntKind.wrap_u16, IntKind.wrap_u32]; rfl))
                    refine take_ (i := 16) (N := some 39) (v := ?_) (a' := ?_) #[true, true, true, true, true, true, true, true, true, true, true, true, true, true, true, true, true, true, false, false, false] rfl rfl (take_ofW HT_.out HW_.out (by kernel_rfl)) (fun _ _ _ h => h) (Or.inl ⟨by rfl, ?_⟩) hHeld ?_ ?_
                    rotate_left; (focus (rintro w' ⟨s0, s1, s2⟩; go_simp; with_reducible rfl)); rotate_left; (focus (simp only [Act.put, List.setIfInBounds_toArray, List.set_cons_zero, List.set_cons_succ, i64_w, i32_w, IntKind.wrap_u8, IntKind.wrap_u16, IntKind.wrap_u32]; rfl))
                    refine one_ (i := 18) (N := some 41) #[true, true, true, true, true, true, true, true, true, true, true, true, true, true, true, true, true, true, true, false, false] rfl rfl (one_of HT_.out (by kernel_rfl)) (by decide) (fun K hK => ?_)
                    refine goes_ Tryd.func38 (by kernel_rfl) rfl #[.int .i64 x8_1] (by rfl) rfl rfl (by (try simp only [List.map_toArray, List.map_cons, List.map_nil]); first | done | rfl | (simp only [List.length_drop, List.length_take]; rfl)) ?_
                    with_reducible refine (refrainlaw4_word.calls x8_1 t180 _ A11.out).mono ?_
                    rintro e w16 ⟨rfl, hb⟩
                    refine ⟨_, rfl, ?_⟩
                    replace HB := bsA HB hb
                    (try clear hb); (try clear hb2); (try clear hk); (try clear hi)
                    refine hK.out _ _ ⟨((HB.out.cell (World.block_lt_of_cell? w _ hw177_0)).trans hw177_0), ((HB.out.cell (World.block_lt_of_cell? w _ hw178_0)).trans hw178_0), ((HB.out.cell (World.block_lt_of_cell? w _ hw179_0)).trans hw179_0)⟩ (fun hHeld => ?_)
                    clear hK K
                    refine norm_ (a' := ?_) ?_ ?_
                    rotate_left
                    · show Act.put _ (some 41) _ = _
                      simp only [Act.put, List.setIfInBounds_toArray, List.set_cons_zero, List.set_cons_succ, i64_w, i32_w, IntKind.wrap_u8, IntKind.wrap_u16, IntKind.wrap_u32]
                      rfl
                    refine pure_ (i := 19) (N := some 42) (v := ?_) (a' := ?_) #[true, true, true, true, true, true, true, true, true, true, true, true, true, true, true, true, true, true, true, true, false] rfl rfl (any_of HT_.out (by kernel_rfl)) (fun _ _ _ h => h) (Or.inl ⟨by rfl, ?_⟩) ?_ ?_
                    rotate_left; (focus (intro w'; go_simp; with_reducible rfl)); rotate_left; (focus (simp only [Act.put, List.setIfInBounds_toArray, List.set_cons_zero, List.set_cons_succ, i64_w, i32_w, IntKind.wrap_u8, IntKind.wrap_u16, IntKind.wrap_u32]; rfl))
                    refine pure_ (i := 20) (N := some 43) (v := ?_) (a' := ?_) #[true, true, true, true, true, true, true, true, true, true, true, true, true, true, true, true, true, true, true, true, true] rfl rfl (any_of HT_.out (by kernel_rfl)) (fun _ _ _ h => h) (Or.inl ⟨by rfl, ?_⟩) ?_ ?_
                    rotate_left; (focus (intro w'; go_simp; with_reducible rfl)); rotate_left; (focus (simp only [Act.put, List.setIfInBounds_toArray, List.set_cons_zero, List.set_cons_succ, i64_w, i32_w, IntKind.wrap_u8, IntKind.wrap_u16, IntKind.wrap_u32]; rfl))
                    refine done_ (done_of HT_.out (by kernel_rfl)) ?_
                    try go_wp2
                    go_ret
                    exact ⟨by first | rfl | (simp [errW_none, errW_some] <;> rfl) | (simp only [← hji6]; first | rfl | (simp [errW_none, errW_some] <;> rfl)) | (simp [*, errW_none, errW_some] <;> rfl), hbT HB.out⟩
                · rw [if_neg c10] at H
                  exact absurd H (by simp)
              · rw [if_neg c9] at H
                have c9b0 : (((rd_L1 l0 (ji6)).length : Int) == 1) = false := beq_eq_false_iff_ne.mpr c9
                have c9b1 : (((rd_L1 l0 (ji6)).length : Int) != 1) = true := bne_iff_ne.mpr c9
                obtain rfl := Option.some.inj H
                try go_wp2
                replace HB := Aside0.mk (below_drew1 HB.out)
                have p177 : 0 ≤ ((ji6) : Int) := of_decide_eq_true (by first | (with_reducible assumption) | assumption)
                have q177 : (ji6) < (l0.length : Int) := of_decide_eq_true (by first | (with_reducible assumption) | assumption)
                obtain ⟨ad177, A177_0, c177_0, e177, hx177_0, hl177_0, hi177_0⟩ := at_L1 HR0.out (ji6) p177 q177
                have hw177_0 := hx177_0
                cases e177
                replace hx177_0 := (HB.out.cell (World.block_lt_of_cell? w _ hx177_0)).trans hx177_0
                have HR177_0 := Aside0.mk hi177_0
                have HC177_0 := Aside0.mk hl177_0
                clear hi177_0 hl177_0
                replace p177 := eq_true p177
                replace q177 := eq_true q177
                refine start_ (n := 21) (S := fun w' => w'.cell? (ad177.add ((ji6)).toNat) = some (.slice A177_0 (rd_L1 l0 (ji6)).length c177_0)) (ds := []) #[false, false, false, false, false, false, false, false, false, false, false, false, false, false, false, false, false, false, false, false, false] (by kernel_rfl) rfl rfl (((HB.out.cell (World.block_lt_of_cell? w _ hw177_0)).trans hw177_0)) (fun hHeld => ?_); refine with_tabW refrainlaw4_untouched.tab7 refrainlaw4_untouched.bits7 (fun HT_ HW_ => ?_)
                generalize wr.drew = w17 at HB HR177_0 hx177_0 hHeld ⊢
                refine pure_ (i := 0) (N := some 23) (v := ?_) (a' := ?_) #[true, false, false, false, false, false, false, false, false, false, false, false, false, false, false, false, false, false, false, false, false] rfl rfl (any_of HT_.out (by kernel_rfl)) (fun _ _ _ h => h) (Or.inl ⟨by rfl, ?_⟩) ?_ ?_
                rotate_left; (focus (intro w'; go_simp; with_reducible rfl)); rotate_left; (focus (simp only [Act.put, List.setIfInBounds_toArray, List.set_cons_zero, List.set_cons_succ, i64_w, i32_w, IntKind.wrap_u8, IntKind.wrap_u16, IntKind.wrap_u32]; rfl))
                refine pure_ (i := 1) (N := some 24) (v := ?_) (a' := ?_) #[true, true, false, false, false, false, false, false, false, false, false, false, false, false, false, false, false, false, false, false, false] rfl rfl (any_of HT_.out (by kernel_rfl)) (fun _ _ _ h => h) (Or.inl ⟨by rfl, ?_⟩) ?_ ?_
                rotate_left; (focus (intro w'; go_simp; with_reducible rfl)); rotate_left; (focus (simp only [Act.put, List.setIfInBounds_toArray, List.set_cons_zero, List.set_cons_succ, i64_w, i32_w, IntKind.wrap_u8, IntKind.wrap_u16, IntKind.wrap_u32]; rfl))
                refine pure_ (i := 2) (N := some 25) (v := ?_) (a' := ?_) #[true, true, true, false, false, false, false, false, false, false, false, false, false, false, false, false, false, false, false, false, false] rfl rfl (any_of HT_.out (by kernel_rfl)) (fun _ _ _ h => h) (Or.inl ⟨by rfl, ?_⟩) ?_ ?_
                rotate_left; (focus (intro w'; go_simp; with_reducible rfl)); rotate_left; (focus (simp only [Act.put, List.setIfInBounds_toArray, List.set_cons_zero, List.set_cons_succ, i64_w, i32_w, IntKind.wrap_u8, IntKind.wrap_u16, IntKind.wrap_u32]; rfl))
                refine pure_ (i := 3) (N := some 26) (v := ?_) (a' := ?_) #[true, true, true, true, false, false, false, false, false, false, false, false, false, false, false, false, false, false, false, false, false] rfl rfl (any_of HT_.out (by kernel_rfl)) (fun _ _ _ h => h) (Or.inl ⟨by rfl, ?_⟩) ?_ ?_
                rotate_left; (focus (intro w'; go_simp; with_reducible rfl)); rotate_left; (focus (simp only [Act.put, List.setIfInBounds_toArray, List.set_cons_zero, List.set_cons_succ, i64_w, i32_w, IntKind.wrap_u8, IntKind.wrap_u16, IntKind.wrap_u32]; rfl))
                refine pure_ (i := 4) (N := some 27) (v := ?_) (a' := ?_) #[true, true, true, true, true, false, false, false, false, false, false, false, false, false, false, false, false, false, false, false, false] rfl rfl (any_of HT_.out (by kernel_rfl)) (fun _ _ _ h => h) (Or.inl ⟨by rfl, ?_⟩) ?_ ?_
                rotate_left; (focus (intro w'; go_simp; with_reducible rfl)); rotate_left; (focus (simp only [Act.put, List.setIfInBounds_toArray, List.set_cons_zero, List.set_cons_succ, i64_w, i32_w, IntKind.wrap_u8, IntKind.wrap_u16, IntKind.wrap_u32]; rfl))
                refine take_ (i := 5) (N := some 28) (v := ?_) (a' := ?_) #[true, true, true, true, true, true, false, false, false, false, false, false, false, false, false, false, false, false, false, false, false] rfl rfl (take_ofW HT_.out HW_.out (by kernel_rfl)) (fun _ _ _ h => h) (Or.inl ⟨by rfl, ?_⟩) hHeld ?_ ?_
                rotate_left
                · intro w' s0
                  go_simp
                  with_reducible rfl
                rotate_left
                · simp only [Act.put, List.setIfInBounds_toArray, List.set_cons_zero, List.set_cons_succ, i64_w, i32_w, IntKind.wrap_u8, IntKind.wrap_u16, IntKind.wrap_u32]
                  rfl
                refine pure_ (i := 6) (N := some 29) (v := ?_) (a' := ?_) #[true, true, true, true, true, true, true, false, false, false, false, false, false, false, false, false, false, false, false, false, false] rfl rfl (any_of HT_.out (by kernel_rfl)) (fun _ _ _ h => h) (Or.inl ⟨by rfl, ?_⟩) ?_ ?_
                rotate_left; (focus (intro w'; go_simp; with_reducible rfl)); rotate_left; (focus (simp only [Act.put, List.setIfInBounds_toArray, List.set_cons_zero, List.set_cons_succ, i64_w, i32_w, IntKind.wrap_u8, IntKind.wrap_u16, IntKind.wrap_u32]; rfl))
                refine pure_ (i := 7) (N := some 30) (v := ?_) (a' := ?_) #[true, true, true, true, true, true, true, true, false, false, false, false, false, false, false, false, false, false, false, false, false] rfl rfl (any_of HT_.out (by kernel_rfl)) (fun _ _ _ h => h) (Or.inl ⟨by rfl, ?_⟩) ?_ ?_
                rotate_left; (focus (intro w'; go_simp; with_reducible rfl)); rotate_left; (focus (simp only [Act.put, List.setIfInBounds_toArray, List.set_cons_zero, List.set_cons_succ, i64_w, i32_w, IntKind.wrap_u8, IntKind.wrap_u16, IntKind.wrap_u32]; rfl))
                refine pure_ (i := 8) (N := some 31) (v := ?_) (a' := ?_) #[true, true, true, true, true, true, true, true, true, false, false, false, false, false, false, false, false, false, false, false, false] rfl rfl (any_of HT_.out (by kernel_rfl)) (fun _ _ _ h => h) (Or.inl ⟨by rfl, ?_⟩) ?_ ?_
                rotate_left; (focus (intro w'; go_simp; with_reducible rfl)); rotate_left; (focus (simp only [Act.put, List.setIfInBounds_toArray, List.set_cons_zero, List.set_cons_succ, i64_w, i32_w, IntKind.wrap_u8, IntKind.wrap_u16, IntKind.wrap_u32]; rfl))
                refine pure_ (i := 9) (N := some 32) (v := undef) (a' := ?_) #[true, true, true, true, true, true, true, true, true, true, false, false, false, false, false, false, false, false, false, false, false] rfl rfl (any_of HT_.out (by kernel_rfl)) (fun _ _ _ h => h) (Or.inr ⟨by rfl, rfl⟩) ?_ ?_
                rotate_left
                · simp only [Act.put, List.setIfInBounds_toArray, List.set_cons_zero, List.set_cons_succ, i64_w, i32_w, IntKind.wrap_u8, IntKind.wrap_u16, IntKind.wrap_u32]
                  rfl
                refine pure_ (i := 10) (N := some 33) (v := undef) (a' := ?_) #[true, true, true, true, true, true, true, true, true, true, true, false, false, false, false, false, false, false, false, false, false] rfl rfl (any_of HT_.out (by kernel_rfl)) (fun _ _ _ h => h) (Or.inr ⟨by rfl, rfl⟩) ?_ ?_
                rotate_left
                · simp only [Act.put, List.setIfInBounds_toArray, List.set_cons_zero, List.set_cons_succ, i64_w, i32_w, IntKind.wrap_u8, IntKind.wrap_u16, IntKind.wrap_u32]
                  rfl
                refine pure_ (i := 11) (N := some 34) (v := undef) (a' := ?_) #[true, true, true, true, true, true, true, true, true, true, true, true, false, false, false, false, false, false, false, false, false] rfl rfl (any_of HT_.out (by kernel_rfl)) (fun _ _ _ h => h) (Or.inr ⟨by rfl, rfl⟩) ?_ ?_
                rotate_left
                · simp only [Act.put, List.setIfInBounds_toArray, List.set_cons_zero, List.set_cons_succ, i64_w, i32_w, IntKind.wrap_u8, IntKind.wrap_u16, IntKind.wrap_u32]
                  rfl
                refine pure_ (i := 12) (N := some 35) (v := undef) (a' := ?_) #[true, true, true, true, true, true, true, true, true, true, true, true, true, false, false, false, false, false, false, false, false] rfl rfl (any_of HT_.out (by kernel_rfl)) (fun _ _ _ h => h) (Or.inr ⟨by rfl, rfl⟩) ?_ ?_
                rotate_left
                · simp only [Act.put, List.setIfInBounds_toArray, List.set_cons_zero, List.set_cons_succ, i64_w, i32_w, IntKind.wrap_u8, IntKind.wrap_u16, IntKind.wrap_u32]
                  rfl
                refine pure_ (i := 13) (N := some 36) (v := undef) (a' := ?_) #[true, true, true, true, true, true, true, true, true, true, true, true, true, true, false, false, false, false, false, false, false] rfl rfl (any_of HT_.out (by kernel_rfl)) (fun _ _ _ h => h) (Or.inr ⟨by rfl, rfl⟩) ?_ ?_
                rotate_left
                · simp only [Act.put, List.setIfInBounds_toArray, List.set_cons_zero, List.set_cons_succ, i64_w, i32_w, IntKind.wrap_u8, IntKind.wrap_u16, IntKind.wrap_u32]
                  rfl
                refine pure_ (i := 14) (N := some 37) (v := undef) (a' := ?_) #[true, true, true, true, true, true, true, true, true, true, true, true, true, true, true, false, false, false, false, false, false] rfl rfl (any_of HT_.out (by kernel_rfl)) (fun _ _ _ h => h) (Or.inr ⟨by rfl, rfl⟩) ?_ ?_
                rotate_left
                · simp only [Act.put, List.setIfInBounds_toArray, List.set_cons_zero, List.set_cons_succ, i64_w, i32_w, IntKind.wrap_u8, IntKind.wrap_u16, IntKind.wrap_u32]
                  rfl
                refine pure_ (i := 15) (N := some 38) (v := undef) (a' := ?_) #[true, true, true, true, true, true, true, true, true, true, true, true, true, true, true, true, false, false, false, false, false] rfl rfl (any_of HT_.out (by kernel_rfl)) (fun _ _ _ h => h) (Or.inr ⟨by rfl, rfl⟩) ?_ ?_
                rotate_left
                · simp only [Act.put, List.setIfInBounds_toArray, List.set_cons_zero, List.set_cons_succ, i64_w, i32_w, IntKind.wrap_u8, IntKind.wrap_u16, IntKind.wrap_u32]
                  rfl
                refine pure_ (i := 16) (N := some 39) (v := undef) (a' := ?_) #[true, true, true, true, true, true, true, true, true, true, true, true, true, true, true, true, true, false, false, false, false] rfl rfl (any_of HT_.out (by kernel_rfl)) (fun _ _ _ h => h) (Or.inr ⟨by rfl, rfl⟩) ?_ ?_
                rotate_left
                · simp only [Act.put, List.setIfInBounds_toArray, List.set_cons_zero, List.set_cons_succ, i64_w, i32_w, IntKind.wrap_u8, IntKind.wrap_u16, IntKind.wrap_u32]
                  rfl
                refine pure_ (i := 17) (N := some 40) (v := undef) (a' := ?_) #[true, true, true, true, true, true, true, true, true, true, true, true, true, true, true, true, true, true, false, false, false] rfl rfl (any_of HT_.out (by kernel_rfl)) (fun _ _ _ h => h) (Or.inr ⟨by rfl, rfl⟩) ?_ ?_
                rotate_left
                · simp only [Act.put, List.setIfInBounds_toArray, List.set_cons_zero, List.set_cons_succ, i64_w, i32_w, IntKind.wrap_u8, IntKind.wrap_u16, IntKind.wrap_u32]
                  rfl
                refine pure_ (i := 18) (N := some 41) (v := undef) (a' := ?_) #[true, true, true, true, true, true, true, true, true, true, true, true, true, true, true, true, true, true, true, false, false] rfl rfl (any_of HT_.out (by kernel_rfl)) (fun _ _ _ h => h) (Or.inr ⟨by rfl, rfl⟩) ?_ ?_
                rotate_left
                · simp only [Act.put, List.setIfInBounds_toArray, List.set_cons_zero, List.set_cons_succ, i64_w, i32_w, IntKind.wrap_u8, IntKind.wrap_u16, IntKind.wrap_u32]
                  rfl
                refine pure_ (i := 19) (N := some 42) (v := undef) (a' := ?_) #[true, true, true, true, true, true, true, true, true, true, true, true, true, true, true, true, true, true, true, true, false] rfl rfl (any_of HT_.out (by kernel_rfl)) (fun _ _ _ h => h) (Or.inr ⟨by rfl, rfl⟩) ?_ ?_
                rotate_left
                · simp only [Act.put, List.setIfInBounds_toArray, List.set_cons_zero, List.set_cons_succ, i64_w, i32_w, IntKind.wrap_u8, IntKind.wrap_u16, IntKind.wrap_u32]
                  rfl
                refine pure_ (i := 20) (N := some 43) (v := ?_) (a' := ?_) #[true, true, true, true, true, true, true, true, true, true, true, true, true, true, true, true, true, true, true, true, true] rfl rfl (any_of HT_.out (by kernel_rfl)) (fun _ _ _ h => h) (Or.inl ⟨by rfl, ?_⟩) ?_ ?_
                rotate_left; (focus (intro w'; go_simp; with_reducible rfl)); rotate_left; (focus (simp only [Act.put, List.setIfInBounds_toArray, List.set_cons_zero, List.set_cons_succ, i64_w, i32_w, IntKind.wrap_u8, IntKind.wrap_u16, IntKind.wrap_u32]; rfl))
                refine done_ (done_of HT_.out (by kernel_rfl)) ?_
                try go_wp2
                go_ret
                exact ⟨by first | rfl | (simp [errW_none, errW_some] <;> rfl) | (simp only [← hji6]; first | rfl | (simp [errW_none, errW_some] <;> rfl)) | (simp [*, errW_none, errW_some] <;> rfl), hbT HB.out⟩
            · rw [if_neg c8] at H
              exact absurd H (by simp)
          · rw [if_neg c7] at H
            exact absurd H (by simp)
        · rw [if_neg c5] at H
          have c5b0 : decide (x8_1 < 20) = false := decide_eq_false c5
          clear c5
          have H' := Aside0.mk H
          clear H
          go_wp2
          go_loopg [9] k1 (fun kq v9 w' => ∃ (x9_2 : Int), v9 = .int .i64 x9_2 ∧ Aside0 (refrainlaw4_untouched.l1 kq l0 l1 l2 (l2.length : Int) x9_2 = some r) ∧ Aside0 (kq ≤ k1) ∧ Aside0 (Below w.heap.size w w'))
          case atStart => exact ⟨(0), (by first | rfl | (simp; done) | (simp [*]; done) | (simp; unfold wrap64; omega) | (congr 1; (try rw [Bool.eq_iff_iff]); simp [List.isEmpty_iff]; done)), H', ⟨Nat.le_refl _⟩, ⟨hbT HB.out⟩⟩
          case round =>
            clear H'
            try clear c1
            try clear p1
            try clear q1
            try clear hx1
            try clear qi1
            try clear p2
            try clear c3
            try clear c5
            try clear c5b0
            try clear p6
            try clear c7
            try clear c8
            try clear c9
            try clear c9b0
            try clear c9b1
            try clear c10
            try clear c12
            try clear c12b0
            try clear c12b1
            try clear c17
            try clear p17
            try clear q17
            try clear hx17
            try clear qi17
            try clear hx177_0
            try clear hx178_0
            try clear hx179_0
            try clear p177
            try clear p178
            try clear p179
            try clear q177
            try clear q178
            try clear q179
            obtain ⟨x9_2, rfl, HA, HK2, HB⟩ := hrel
            cases gk with
            | zero => (have HA2 := HA.out; clear HA; revert HA2; rw [refrainlaw4_untouched.l1_zero]; intro h_; cases h_)
            | succ k2 =>
              have H := HA.out
              clear HA
              simp only [refrainlaw4_untouched.l1] at H
              by_cases c18 : x9_2 < (l2.length : Int)
              · rw [if_pos c18] at H
                have c18b0 : decide (x9_2 < (l2.length : Int)) = true := decide_eq_true c18
                clear c18
                by_cases c19 : 0 ≤ x9_2
                · rw [if_pos c19] at H
                  have c19b0 : decide (0 ≤ x9_2) = true := decide_eq_true c19
                  clear c19
                  by_cases c20 : x9_2 < (l2.length : Int)
                  · rw [if_pos c20] at H
                    have c20b0 : decide (x9_2 < (l2.length : Int)) = true := decide_eq_true c20
                    clear c20
                    have HC21 := Aside0.mk H
                    clear H
                    have p181 : 0 ≤ (x9_2 : Int) := of_decide_eq_true (by first | (with_reducible assumption) | assumption)
                    have q181 : x9_2 < (l2.length : Int) := of_decide_eq_true (by first | (with_reducible assumption) | assumption)
                    obtain ⟨ad181, A181_0, c181_0, e181, hx181_0, hl181_0, hi181_0⟩ := at_L1 HR2.out x9_2 p181 q181
                    cases e181
                    replace hx181_0 := (HB.out.cell (World.block_lt_of_cell? w _ hx181_0)).trans hx181_0
                    have HR181_0 := Aside0.mk hi181_0
                    have HC181_0 := Aside0.mk hl181_0
                    clear hi181_0 hl181_0
                    replace p181 := eq_true p181
                    replace q181 := eq_true q181
                    go_upto_region 13 with (fail)
                    go_cut [77] (fun v77 wc => ∃ (kq : Nat) (x77_20 : Bool), v77 = .bool x77_20 ∧ Aside0 (refrainlaw4_untouched.j2 kq l0 l1 l2 (l2.length : Int) x9_2 ((rd_L1 l2 x9_2).length : Int) x77_20 = some r) ∧ Aside0 (kq ≤ k2) ∧ Aside0 (Below w.heap.size w wc))
                    case first =>
                      have H := HC21.out
                      clear HC21
                      by_cases c22 : x9_2 < (l0.length : Int)
                      · rw [if_pos c22] at H
                        have c22b0 : decide (x9_2 < (l0.length : Int)) = true := decide_eq_true c22
                        clear c22
                        (first | rw [c22b0] | (simp only [i64_w, i32_w, IntKind.wrap_u8, IntKind.wrap_u16, IntKind.wrap_u32]; rw [c22b0]) | skip)
                        replace H := Option.bind_eq_some_iff.mp H
                        obtain ⟨t184, A230, H⟩ := H
                        replace H : (if t184 = true then (if x9_2 < (l1.length : Int) then (if 0 ≤ ((rd_L1 l2 x9_2).length : Int) then (if ((rd_L1 l2 x9_2).length : Int) ≤ ((rd_L1 l1 x9_2).length : Int) then ((refrainlaw4_sameRow.f k2 ((rd_L1 l1 x9_2).take (((rd_L1 l2 x9_2).length : Int) : Int).toNat) (rd_L1 l2 x9_2)).bind fun t188 => (refrainlaw4_untouched.j2 k2 l0 l1 l2 (l2.length : Int) x9_2 ((rd_L1 l2 x9_2).length : Int) (!t188))) else (none)) else (none)) else (none)) else (refrainlaw4_untouched.j2 k2 l0 l1 l2 (l2.length : Int) x9_2 ((rd_L1 l2 x9_2).length : Int) true)) = some r := H
                        have A23 := Aside0.mk A230
                        clear A230
                        by_cases c24 : t184 = true
                        · subst c24
                          have H1 : (if x9_2 < (l1.length : Int) then (if 0 ≤ ((rd_L1 l2 x9_2).length : Int) then (if ((rd_L1 l2 x9_2).length : Int) ≤ ((rd_L1 l1 x9_2).length : Int) then ((refrainlaw4_sameRow.f k2 ((rd_L1 l1 x9_2).take (((rd_L1 l2 x9_2).length : Int) : Int).toNat) (rd_L1 l2 x9_2)).bind fun t188 => (refrainlaw4_untouched.j2 k2 l0 l1 l2 (l2.length : Int) x9_2 ((rd_L1 l2 x9_2).length : Int) (!t188))) else (none)) else (none)) else (none)) = some r := by rw [if_pos rfl] at H; exact H
                          clear H
                          have H := H1
                          clear H1
                          by_cases c25 : x9_2 < (l1.length : Int)
                          · rw [if_pos c25] at H
                            have c25b0 : decide (x9_2 < (l1.length : Int)) = true := decide_eq_true c25
                            clear c25
                            by_cases c26 : 0 ≤ ((rd_L1 l2 x9_2).length : Int)
                            · rw [if_pos c26] at H
                              have c26b0 := eq_true c26
                              have c26b1 : decide (0 ≤ ((rd_L1 l2 x9_2).length : Int)) = true := decide_eq_true c26
                              clear c26
                              by_cases c27 : ((rd_L1 l2 x9_2).length : Int) ≤ ((rd_L1 l1 x9_2).length : Int)
                              · rw [if_pos c27] at H
                                have c27b0 := eq_true c27
                                have c27b1 : decide (((rd_L1 l2 x9_2).length : Int) ≤ ((rd_L1 l1 x9_2).length : Int)) = true := decide_eq_true c27
                                clear c27
                                replace H := Option.bind_eq_some_iff.mp H
                                obtain ⟨t188, A280, H⟩ := H
                                replace H : (refrainlaw4_untouched.j2 k2 l0 l1 l2 (l2.length : Int) x9_2 ((rd_L1 l2 x9_2).length : Int) (!t188)) = some r := H
                                have A28 := Aside0.mk A280
                                clear A280
                                have H' := Aside0.mk H
                                clear H
                                try go_wp2
                                replace HB := Aside0.mk (below_drew1 HB.out)
                                have p182 : 0 ≤ (x9_2 : Int) := of_decide_eq_true (by first | (with_reducible assumption) | assumption)
                                have q182 : x9_2 < (l0.length : Int) := of_decide_eq_true (by first | (with_reducible assumption) | assumption)
                                obtain ⟨ad182, A182_0, c182_0, e182, hx182_0, hl182_0, hi182_0⟩ := at_L1 HR0.out x9_2 p182 q182
                                have hw182_0 := hx182_0
                                cases e182
                                replace hx182_0 := (HB.out.cell (World.block_lt_of_cell? w _ hx182_0)).trans hx182_0
                                have HR182_0 := Aside0.mk hi182_0
                                have HC182_0 := Aside0.mk hl182_0
                                clear hi182_0 hl182_0
                                replace p182 := eq_true p182
                                replace q182 := eq_true q182
                                have p183 : 0 ≤ (x9_2 : Int) := of_decide_eq_true (by first | (with_reducible assumption) | assumption)
                                have q183 : x9_2 < (l2.length : Int) := of_decide_eq_true (by first | (with_reducible assumption) | assumption)
                                obtain ⟨ad183, A183_0, c183_0, e183, hx183_0, hl183_0, hi183_0⟩ := at_L1 HR2.out x9_2 p183 q183
                                have hw183_0 := hx183_0
                                obtain rfl : ad181 = ad183 := (by injection e183)
                                replace hx183_0 := (HB.out.cell (World.block_lt_of_cell? w _ hx183_0)).trans hx183_0
                                have HR183_0 := Aside0.mk hi183_0
                                have HC183_0 := Aside0.mk hl183_0
                                clear hi183_0 hl183_0
                                replace p183 := eq_true p183
                                replace q183 := eq_true q183
                                have p185 : 0 ≤ (x9_2 : Int) := of_decide_eq_true (by first | (with_reducible assumption) | assumption)
                                have q185 : x9_2 < (l1.length : Int) := of_decide_eq_true (by first | (with_reducible assumption) | assumption)
                                obtain ⟨ad185, A185_0, c185_0, e185, hx185_0, hl185_0, hi185_0⟩ := at_L1 HR1.out x9_2 p185 q185
                                have hw185_0 := hx185_0
                                cases e185
                                replace hx185_0 := (HB.out.cell (World.block_lt_of_cell? w _ hx185_0)).trans hx185_0
                                have HR185_0 := Aside0.mk hi185_0
                                have HC185_0 := Aside0.mk hl185_0
                                clear hi185_0 hl185_0
                                replace p185 := eq_true p185
                                replace q185 := eq_true q185
                                have p187 : 0 ≤ (x9_2 : Int) := of_decide_eq_true (by first | (with_reducible assumption) | assumption)
                                have q187 : x9_2 < (l2.length : Int) := of_decide_eq_true (by first | (with_reducible assumption) | assumption)
                                obtain ⟨ad187, A187_0, c187_0, e187, hx187_0, hl187_0, hi187_0⟩ := at_L1 HR2.out x9_2 p187 q187
                                have hw187_0 := hx187_0
                                obtain rfl : ad181 = ad187 := (by injection e187)
                                replace hx187_0 := (HB.out.cell (World.block_lt_of_cell? w _ hx187_0)).trans hx187_0
                                have HR187_0 := Aside0.mk hi187_0
                                have HC187_0 := Aside0.mk hl187_0
                                clear hi187_0 hl187_0
                                replace p187 := eq_true p187
                                replace q187 := eq_true q187
                                have ea_ := Option.some.inj (hx183_0.symm.trans hx187_0)
                                injection ea_ with ea_ en_ ec_
                                subst ea_
                                subst ec_
                                clear en_
                                refine start_ (n := 24) (S := fun w' => w'.cell? (ad182.add (x9_2).toNat) = some (.slice A182_0 (rd_L1 l0 x9_2).length c182_0) ∧ w'.cell? (ad181.add (x9_2).toNat) = some (.slice A183_0 (rd_L1 l2 x9_2).length c183_0) ∧ w'.cell? (ad185.add (x9_2).toNat) = some (.slice A185_0 (rd_L1 l1 x9_2).length c185_0) ∧ w'.cell? (ad181.add (x9_2).toNat) = some (.slice A183_0 (rd_L1 l2 x9_2).length c183_0)) (ds := []) #[false, false, false, false, false, false, false, false, false, false, false, false, false, false, false, false, false, false, false, false, false, false, false, false] (by kernel_rfl) rfl rfl ⟨((HB.out.cell (World.block_lt_of_cell? w _ hw182_0)).trans hw182_0), ((HB.out.cell (World.block_lt_of_cell? w _ hw183_0)).trans hw183_0), ((HB.out.cell (World.block_lt_of_cell? w _ hw185_0)).trans hw185_0), ((HB.out.cell (World.block_lt_of_cell? w _ hw187_0)).trans hw187_0)⟩ (fun hHeld => ?_); refine with_tabW refrainlaw4_untouched.tab13 refrainlaw4_untouched.bits13 (fun HT_ HW_ => ?_)
                                generalize wr.drew = w29 at HB HR182_0 HR183_0 HR185_0 HR187_0 hx182_0 hx183_0 hx185_0 hx187_0 hHeld ⊢
                                refine pure_ (i := 0) (N := some 54) (v := ?_) (a' := ?_) #[true, false, false, false, false, false, false, false, false, false, false, false, false, false, false, false, false, false, false, false, false, false, false, false] rfl rfl (any_of HT_.out (by kernel_rfl)) (fun _ _ _ h => h) (Or.inl ⟨by rfl, ?_⟩) ?_ ?_
                                rotate_left; (focus (intro w'; go_simp; with_reducible rfl)); rotate_left; (focus (simp only [Act.put, List.setIfInBounds_toArray, List.set_cons_zero, List.set_cons_succ, i64_w, i32_w, IntKind.wrap_u8, IntKind.wrap_u16, IntKind.wrap_u32]; rfl))
                                refine pure_ (i := 1) (N := some 55) (v := ?_) (a' := ?_) #[true, true, false, false, false, false, false, false, false, false, false, false, false, false, false, false, false, false, false, false, false, false, false, false] rfl rfl (any_of HT_.out (by kernel_rfl)) (fun _ _ _ h => h) (Or.inl ⟨by rfl, ?_⟩) ?_ ?_
                                rotate_left; (focus (intro w'; go_simp; with_reducible rfl)); rotate_left; (focus (simp only [Act.put, List.setIfInBounds_toArray, List.set_cons_zero, List.set_cons_succ, i64_w, i32_w, IntKind.wrap_u8, IntKind.wrap_u16, IntKind.wrap_u32]; rfl))
                                refine pure_ (i := 2) (N := some 56) (v := ?_) (a' := ?_) #[true, true, true, false, false, false, false, false, false, false, false, false, false, false, false, false, false, false, false, false, false, false, false, false] rfl rfl (any_of HT_.out (by kernel_rfl)) (fun _ _ _ h => h) (Or.inl ⟨by rfl, ?_⟩) ?_ ?_
                                rotate_left; (focus (intro w'; go_simp; with_reducible rfl)); rotate_left; (focus (simp only [Act.put, List.setIfInBounds_toArray, List.set_cons_zero, List.set_cons_succ, i64_w, i32_w, IntKind.wrap_u8, IntKind.wrap_u16, IntKind.wrap_u32]; rfl))
                                refine pure_ (i := 4) (N := some 58) (v := ?_) (a' := ?_) #[true, true, true, false, true, false, false, false, false, false, false, false, false, false, false, false, false, false, false, false, false, false, false, false] rfl rfl (any_of HT_.out (by kernel_rfl)) (fun _ _ _ h => h) (Or.inl ⟨by rfl, ?_⟩) ?_ ?_
                                rotate_left; (focus (intro w'; go_simp; with_reducible rfl)); rotate_left; (focus (simp only [Act.put, List.setIfInBounds_toArray, List.set_cons_zero, List.set_cons_succ, i64_w, i32_w, IntKind.wrap_u8, IntKind.wrap_u16, IntKind.wrap_u32]; rfl))
                                refine pure_ (i := 5) (N := some 59) (v := ?_) (a' := ?_) #[true, true, true, false, true, true, false, false, false, false, false, false, false, false, false, false, false, false, false, false, false, false, false, false] rfl rfl (any_of HT_.out (by kernel_rfl)) (fun _ _ _ h => h) (Or.inl ⟨by rfl, ?_⟩) ?_ ?_
                                rotate_left; (focus (intro w'; go_simp; with_reducible rfl)); rotate_left; (focus (simp only [Act.put, List.setIfInBounds_toArray, List.set_cons_zero, List.set_cons_succ, i64_w, i32_w, IntKind.wrap_u8, IntKind.wrap_u16, IntKind.wrap_u32]; rfl))
                                refine pure_ (i := 6) (N := some 60) (v := ?_) (a' := ?_) #[true, true, true, false, true, true, true, false, false, false, false, false, false, false, false, false, false, false, false, false, false, false, false, false] rfl rfl (any_of HT_.out (by kernel_rfl)) (fun _ _ _ h => h) (Or.inl ⟨by rfl, ?_⟩) ?_ ?_
                                rotate_left; (focus (intro w'; go_simp; with_reducible rfl)); rotate_left; (focus (simp only [Act.put, List.setIfInBounds_toArray, List.set_cons_zero, List.set_cons_succ, i64_w, i32_w, IntKind.wrap_u8, IntKind.wrap_u16, IntKind.wrap_u32]; rfl))
                                refine take_ (i := 3) (N := some 57) (v := ?_) (a' := ?_) #[true, true, true, true, true, true, true, false, false, false, false, false, false, false, false, false, false, false, false, false, false, false, false, false] rfl rfl (take_ofW HT_.out HW_.out (by kernel_rfl)) (fun _ _ _ h => h) (Or.inl ⟨by rfl, ?_⟩) hHeld ?_ ?_
                                rotate_left; (focus (rintro w' ⟨s0, s1, s2, s3⟩; go_simp; with_reducible rfl)); rotate_left; (focus (simp only [Act.put, List.setIfInBounds_toArray, List.set_cons_zero, List.set_cons_succ, i64_w, i32_w, IntKind.wrap_u8, IntKind.wrap_u16, IntKind.wrap_u32]; rfl))
                                refine take_ (i := 7) (N := some 61) (v := ?_) (a' := ?_) #[true, true, true, true, true, true, true, true, false, false, false, false, false, false, false, false, false, false, false, false, false, false, false, false] rfl rfl (take_ofW HT_.out HW_.out (by kernel_rfl)) (fun _ _ _ h => h) (Or.inl ⟨by rfl, ?_⟩) hHeld ?_ ?_
                                rotate_left; (focus (rintro w' ⟨s0, s1, s2, s3⟩; go_simp; with_reducible rfl)); rotate_left; (focus (simp only [Act.put, List.setIfInBounds_toArray, List.set_cons_zero, List.set_cons_succ, i64_w, i32_w, IntKind.wrap_u8, IntKind.wrap_u16, IntKind.wrap_u32]; rfl))
                                refine one_ (i := 8) (N := some 62) #[true, true, true, true, true, true, true, true, true, false, false, false, false, false, false, false, false, false, false, false, false, false, false, false] rfl rfl (one_of HT_.out (by kernel_rfl)) (by decide) (fun K hK => ?_)
                                refine goes_ Tryd.func37 (by kernel_rfl) rfl #[.slice A182_0 (rd_L1 l0 x9_2).length c182_0, .slice A183_0 (rd_L1 l2 x9_2).length c183_0] (by rfl) rfl rfl (by (try simp only [List.map_toArray, List.map_cons, List.map_nil]); first | done | rfl | (simp only [List.length_drop, List.length_take]; rfl)) ?_
                                with_reducible refine (refrainlaw4_sameRow.calls k2 _ _ (rd_L1 l0 x9_2) _ _ (rd_L1 l2 x9_2) true _ ?side1 ?side2 ?side3 ?side4 A23.out).mono ?_
                                (case side1 => repeat (first | exact (Kd.C_below HR182_0.out HB.out) | (with_reducible refine Kd.C_alloc ?_ _) | (with_reducible refine Kd.C_drewN ?_ _) | (with_reducible refine Kd.C_drew ?_)))
                                (case side2 => exact HC182_0.out)
                                (case side3 => repeat (first | exact (Kd.C_below HR183_0.out HB.out) | (with_reducible refine Kd.C_alloc ?_ _) | (with_reducible refine Kd.C_drewN ?_ _) | (with_reducible refine Kd.C_drew ?_)))
                                (case side4 => exact HC183_0.out)
                                rintro e w' ⟨rfl, ⟨nd, rfl⟩⟩
                                refine ⟨_, rfl, ?_⟩
                                obtain ⟨i030, hi030, _, hsz30, _⟩ := info_parts info9
                                obtain ⟨hcut30, hA30, hC30⟩ := print_take_of (P := Tryd.prog) Value.string (⟨#[]⟩ : ByteArray) 22 9 .i64 Tryd.underlying22 hi030 hsz30 A185_0 c185_0 (rd_L1 l1 x9_2) ((rd_L1 l2 x9_2).length : Int) (of_decide_eq_true (by first | (with_reducible assumption) | assumption)) (of_decide_eq_true (by first | (with_reducible assumption) | assumption)) HC185_0.out
                                have HR186 := Aside0.mk (Kd.C_of_reads (h1 := fun _ => rfl) (hA30 _ (Kd.reads_of_C HR185_0.out)))
                                have HC186 := Aside0.mk hC30
                                clear hA30 hC30 hi030 hsz30
                                refine hK.out _ _ ⟨((HB.out.cell (World.block_lt_of_cell? w _ hw182_0)).trans hw182_0), ((HB.out.cell (World.block_lt_of_cell? w _ hw183_0)).trans hw183_0), ((HB.out.cell (World.block_lt_of_cell? w _ hw185_0)).trans hw185_0), ((HB.out.cell (World.block_lt_of_cell? w _ hw187_0)).trans hw187_0)⟩ (fun hHeld => ?_)
                                clear hK K
                                refine norm_ (a' := ?_) ?_ ?_
                                rotate_left
                                · show Act.put _ (some 62) _ = _
                                  simp only [Act.put, List.setIfInBounds_toArray, List.set_cons_zero, List.set_cons_succ, i64_w, i32_w, IntKind.wrap_u8, IntKind.wrap_u16, IntKind.wrap_u32]
                                  rfl
                                refine pure_ (i := 9) (N := some 63) (v := ?_) (a' := ?_) #[true, true, true, true, true, true, true, true, true, true, false, false, false, false, false, false, false, false, false, false, false, false, false, false] rfl rfl (any_of HT_.out (by kernel_rfl)) (fun _ _ _ h => h) (Or.inl ⟨by rfl, ?_⟩) ?_ ?_
                                rotate_left; (focus (intro w'; go_simp; with_reducible rfl)); rotate_left; (focus (simp only [Act.put, List.setIfInBounds_toArray, List.set_cons_zero, List.set_cons_succ, i64_w, i32_w, IntKind.wrap_u8, IntKind.wrap_u16, IntKind.wrap_u32]; rfl))
                                refine pure_ (i := 10) (N := some 64) (v := ?_) (a' := ?_) #[true, true, true, true, true, true, true, true, true, true, true, false, false, false, false, false, false, false, false, false, false, false, false, false] rfl rfl (any_of HT_.out (by kernel_rfl)) (fun _ _ _ h => h) (Or.inl ⟨by rfl, ?_⟩) ?_ ?_
                                rotate_left; (focus (intro w'; go_simp; with_reducible rfl)); rotate_left; (focus (simp only [Act.put, List.setIfInBounds_toArray, List.set_cons_zero, List.set_cons_succ, i64_w, i32_w, IntKind.wrap_u8, IntKind.wrap_u16, IntKind.wrap_u32]; rfl))
                                refine pure_ (i := 11) (N := some 65) (v := ?_) (a' := ?_) #[true, true, true, true, true, true, true, true, true, true, true, true, false, false, false, false, false, false, false, false, false, false, false, false] rfl rfl (any_of HT_.out (by kernel_rfl)) (fun _ _ _ h => h) (Or.inl ⟨by rfl, ?_⟩) ?_ ?_
                                rotate_left; (focus (intro w'; go_simp; with_reducible rfl)); rotate_left; (focus (simp only [Act.put, List.setIfInBounds_toArray, List.set_cons_zero, List.set_cons_succ, i64_w, i32_w, IntKind.wrap_u8, IntKind.wrap_u16, IntKind.wrap_u32]; rfl))
                                refine pure_ (i := 12) (N := some 66) (v := ?_) (a' := ?_) #[true, true, true, true, true, true, true, true, true, true, true, true, true, false, false, false, false, false, false, false, false, false, false, false] rfl rfl (any_of HT_.out (by kernel_rfl)) (fun _ _ _ h => h) (Or.inl ⟨by rfl, ?_⟩) ?_ ?_
                                rotate_left; (focus (intro w'; go_simp; with_reducible rfl)); rotate_left; (focus (simp only [Act.put, List.setIfInBounds_toArray, List.set_cons_zero, List.set_cons_succ, i64_w, i32_w, IntKind.wrap_u8, IntKind.wrap_u16, IntKind.wrap_u32]; rfl))
                                refine pure_ (i := 13) (N := some 67) (v := ?_) (a' := ?_) #[true, true, true, true, true, true, true, true, true, true, true, true, true, true, false, false, false, false, false, false, false, false, false, false] rfl rfl (any_of HT_.out (by kernel_rfl)) (fun _ _ _ h => h) (Or.inl ⟨by rfl, ?_⟩) ?_ ?_
                                rotate_left; (focus (intro w'; go_simp; with_reducible rfl)); rotate_left; (focus (simp only [Act.put, List.setIfInBounds_toArray, List.set_cons_zero, List.set_cons_succ, i64_w, i32_w, IntKind.wrap_u8, IntKind.wrap_u16, IntKind.wrap_u32]; rfl))
                                refine pure_ (i := 15) (N := some 69) (v := ?_) (a' := ?_) #[true, true, true, true, true, true, true, true, true, true, true, true, true, true, false, true, false, false, false, false, false, false, false, false] rfl rfl (any_of HT_.out (by kernel_rfl)) (fun _ _ _ h => h) (Or.inl ⟨by rfl, ?_⟩) ?_ ?_
                                rotate_left; (focus (intro w'; go_simp; with_reducible rfl)); rotate_left; (focus (simp only [Act.put, List.setIfInBounds_toArray, List.set_cons_zero, List.set_cons_succ, i64_w, i32_w, IntKind.wrap_u8, IntKind.wrap_u16, IntKind.wrap_u32]; rfl))
                                refine pure_ (i := 17) (N := some 71) (v := ?_) (a' := ?_) #[true, true, true, true, true, true, true, true, true, true, true, true, true, true, false, true, false, true, false, false, false, false, false, false] rfl rfl (any_of HT_.out (by kernel_rfl)) (fun _ _ _ h => h) (Or.inl ⟨by rfl, ?_⟩) ?_ ?_
                                rotate_left; (focus (intro w'; go_simp; with_reducible rfl)); rotate_left; (focus (simp only [Act.put, List.setIfInBounds_toArray, List.set_cons_zero, List.set_cons_succ, i64_w, i32_w, IntKind.wrap_u8, IntKind.wrap_u16, IntKind.wrap_u32]; rfl))
                                refine pure_ (i := 18) (N := some 72) (v := ?_) (a' := ?_) #[true, true, true, true, true, true, true, true, true, true, true, true, true, true, false, true, false, true, true, false, false, false, false, false] rfl rfl (any_of HT_.out (by kernel_rfl)) (fun _ _ _ h => h) (Or.inl ⟨by rfl, ?_⟩) ?_ ?_
                                rotate_left; (focus (intro w'; go_simp; with_reducible rfl)); rotate_left; (focus (simp only [Act.put, List.setIfInBounds_toArray, List.set_cons_zero, List.set_cons_succ, i64_w, i32_w, IntKind.wrap_u8, IntKind.wrap_u16, IntKind.wrap_u32]; rfl))
                                refine pure_ (i := 19) (N := some 73) (v := ?_) (a' := ?_) #[true, true, true, true, true, true, true, true, true, true, true, true, true, true, false, true, false, true, true, true, false, false, false, false] rfl rfl (any_of HT_.out (by kernel_rfl)) (fun _ _ _ h => h) (Or.inl ⟨by rfl, ?_⟩) ?_ ?_
                                rotate_left; (focus (intro w'; go_simp; with_reducible rfl)); rotate_left; (focus (simp only [Act.put, List.setIfInBounds_toArray, List.set_cons_zero, List.set_cons_succ, i64_w, i32_w, IntKind.wrap_u8, IntKind.wrap_u16, IntKind.wrap_u32]; rfl))
                                refine take_ (i := 14) (N := some 68) (v := ?_) (a' := ?_) #[true, true, true, true, true, true, true, true, true, true, true, true, true, true, true, true, false, true, true, true, false, false, false, false] rfl rfl (take_ofW HT_.out HW_.out (by kernel_rfl)) (fun _ _ _ h => h) (Or.inl ⟨by rfl, ?_⟩) hHeld ?_ ?_
                                rotate_left; (focus (rintro w' ⟨s0, s1, s2, s3⟩; go_simp; with_reducible rfl)); rotate_left; (focus (simp only [Act.put, List.setIfInBounds_toArray, List.set_cons_zero, List.set_cons_succ, i64_w, i32_w, IntKind.wrap_u8, IntKind.wrap_u16, IntKind.wrap_u32]; rfl))
                                refine pure_ (i := 16) (N := some 70) (v := ?_) (a' := ?_) #[true, true, true, true, true, true, true, true, true, true, true, true, true, true, true, true, true, true, true, true, false, false, false, false] rfl rfl (any_of HT_.out (by kernel_rfl)) (fun _ _ _ h => h) (Or.inl ⟨by rfl, ?_⟩) ?_ ?_
                                rotate_left; (focus (intro w'; go_simp; with_reducible rfl)); rotate_left; (focus (simp only [Act.put, List.setIfInBounds_toArray, List.set_cons_zero, List.set_cons_succ, i64_w, i32_w, IntKind.wrap_u8, IntKind.wrap_u16, IntKind.wrap_u32]; rfl))
                                refine take_ (i := 20) (N := some 74) (v := ?_) (a' := ?_) #[true, true, true, true, true, true, true, true, true, true, true, true, true, true, true, true, true, true, true, true, true, false, false, false] rfl rfl (take_ofW HT_.out HW_.out (by kernel_rfl)) (fun _ _ _ h => h) (Or.inl ⟨by rfl, ?_⟩) hHeld ?_ ?_
                                rotate_left; (focus (rintro w' ⟨s0, s1, s2, s3⟩; go_simp; with_reducible rfl)); rotate_left; (focus (simp only [Act.put, List.setIfInBounds_toArray, List.set_cons_zero, List.set_cons_succ, i64_w, i32_w, IntKind.wrap_u8, IntKind.wrap_u16, IntKind.wrap_u32]; rfl))
                                refine one_ (i := 21) (N := some 75) #[true, true, true, true, true, true, true, true, true, true, true, true, true, true, true, true, true, true, true, true, true, true, false, false] rfl rfl (one_of HT_.out (by kernel_rfl)) (by decide) (fun K hK => ?_)
                                refine goes_ Tryd.func37 (by kernel_rfl) rfl #[.slice A185_0 ((rd_L1 l1 x9_2).take (((rd_L1 l2 x9_2).length : Int) : Int).toNat).length c185_0, .slice A183_0 (rd_L1 l2 x9_2).length c183_0] (by rfl) rfl rfl (by (try simp only [List.map_toArray, List.map_cons, List.map_nil]); first | done | (rw [show ((rd_L1 l1 x9_2).take (((rd_L1 l2 x9_2).length : Int) : Int).toNat).length = ((rd_L1 l2 x9_2).length : Int).toNat from (by rw [List.length_take]; have h_ : (((rd_L1 l2 x9_2).length : Int) : Int) ≤ ((rd_L1 l1 x9_2).length : Int) := of_decide_eq_true (by first | (with_reducible assumption) | assumption); omega)] <;> rfl) | rfl | (simp only [List.length_drop, List.length_take]; rfl)) ?_
                                with_reducible refine (refrainlaw4_sameRow.calls k2 _ _ ((rd_L1 l1 x9_2).take (((rd_L1 l2 x9_2).length : Int) : Int).toNat) _ _ (rd_L1 l2 x9_2) t188 _ ?side1 ?side2 ?side3 ?side4 A28.out).mono ?_
                                (case side1 => repeat (first | exact (Kd.C_below HR186.out (hbT HB.out)) | (with_reducible refine Kd.C_alloc ?_ _) | (with_reducible refine Kd.C_drewN ?_ _) | (with_reducible refine Kd.C_drew ?_)))
                                (case side2 => exact HC186.out)
                                (case side3 => repeat (first | exact (Kd.C_below HR187_0.out (hbT HB.out)) | (with_reducible refine Kd.C_alloc ?_ _) | (with_reducible refine Kd.C_drewN ?_ _) | (with_reducible refine Kd.C_drew ?_)))
                                (case side4 => exact HC187_0.out)
                                rintro e w' ⟨rfl, ⟨nd, rfl⟩⟩
                                refine ⟨_, rfl, ?_⟩
                                refine hK.out _ _ ⟨((HB.out.cell (World.block_lt_of_cell? w _ hw182_0)).trans hw182_0), ((HB.out.cell (World.block_lt_of_cell? w _ hw183_0)).trans hw183_0), ((HB.out.cell (World.block_lt_of_cell? w _ hw185_0)).trans hw185_0), ((HB.out.cell (World.block_lt_of_cell? w _ hw187_0)).trans hw187_0)⟩ (fun hHeld => ?_)
                                clear hK K
                                refine norm_ (a' := ?_) ?_ ?_
                                rotate_left
                                · show Act.put _ (some 75) _ = _
                                  simp only [Act.put, List.setIfInBounds_toArray, List.set_cons_zero, List.set_cons_succ, i64_w, i32_w, IntKind.wrap_u8, IntKind.wrap_u16, IntKind.wrap_u32]
                                  rfl
                                refine pure_ (i := 22) (N := some 76) (v := ?_) (a' := ?_) #[true, true, true, true, true, true, true, true, true, true, true, true, true, true, true, true, true, true, true, true, true, true, true, false] rfl rfl (any_of HT_.out (by kernel_rfl)) (fun _ _ _ h => h) (Or.inl ⟨by rfl, ?_⟩) ?_ ?_
                                rotate_left; (focus (intro w'; go_simp; with_reducible rfl)); rotate_left; (focus (simp only [Act.put, List.setIfInBounds_toArray, List.set_cons_zero, List.set_cons_succ, i64_w, i32_w, IntKind.wrap_u8, IntKind.wrap_u16, IntKind.wrap_u32]; rfl))
                                refine pure_ (i := 23) (N := some 77) (v := ?_) (a' := ?_) #[true, true, true, true, true, true, true, true, true, true, true, true, true, true, true, true, true, true, true, true, true, true, true, true] rfl rfl (any_of HT_.out (by kernel_rfl)) (fun _ _ _ h => h) (Or.inl ⟨by rfl, ?_⟩) ?_ ?_
                                rotate_left; (focus (intro w'; go_simp; with_reducible rfl)); rotate_left; (focus (simp only [Act.put, List.setIfInBounds_toArray, List.set_cons_zero, List.set_cons_succ, i64_w, i32_w, IntKind.wrap_u8, IntKind.wrap_u16, IntKind.wrap_u32]; rfl))
                                refine done_ (done_of HT_.out (by kernel_rfl)) ?_
                                try go_wp2
                                go_meet
                                case rel => exact ⟨_, (!t188), (by first | rfl | (simp; done) | (simp [*]; done) | (simp; unfold wrap64; omega) | (congr 1; (try rw [Bool.eq_iff_iff]); simp [List.isEmpty_iff]; done)), H', ⟨by have := HK1.out; have := HK2.out; first | omega | exact Nat.le_refl _⟩, ⟨hbT HB.out⟩⟩
                              · rw [if_neg c27] at H
                                exact absurd H (by simp)
                            · rw [if_neg c26] at H
                              exact absurd H (by simp)
                          · rw [if_neg c25] at H
                            exact absurd H (by simp)
                        · replace c24 := Bool.eq_false_iff.mpr c24
                          subst c24
                          have H1 : (refrainlaw4_untouched.j2 k2 l0 l1 l2 (l2.length : Int) x9_2 ((rd_L1 l2 x9_2).length : Int) true) = some r := by rw [if_neg (show ¬ (false = true) by decide)] at H; exact H
                          clear H
                          have H := H1
                          clear H1
                          have H' := Aside0.mk H
                          clear H
                          try go_wp2
                          replace HB := Aside0.mk (below_drew1 HB.out)
                          have p182 : 0 ≤ (x9_2 : Int) := of_decide_eq_true (by first | (with_reducible assumption) | assumption)
                          have q182 : x9_2 < (l0.length : Int) := of_decide_eq_true (by first | (with_reducible assumption) | assumption)
                          obtain ⟨ad182, A182_0, c182_0, e182, hx182_0, hl182_0, hi182_0⟩ := at_L1 HR0.out x9_2 p182 q182
                          have hw182_0 := hx182_0
                          cases e182
                          replace hx182_0 := (HB.out.cell (World.block_lt_of_cell? w _ hx182_0)).trans hx182_0
                          have HR182_0 := Aside0.mk hi182_0
                          have HC182_0 := Aside0.mk hl182_0
                          clear hi182_0 hl182_0
                          replace p182 := eq_true p182
                          replace q182 := eq_true q182
                          have p183 : 0 ≤ (x9_2 : Int) := of_decide_eq_true (by first | (with_reducible assumption) | assumption)
                          have q183 : x9_2 < (l2.length : Int) := of_decide_eq_true (by first | (with_reducible assumption) | assumption)
                          obtain ⟨ad183, A183_0, c183_0, e183, hx183_0, hl183_0, hi183_0⟩ := at_L1 HR2.out x9_2 p183 q183
                          have hw183_0 := hx183_0
                          obtain rfl : ad181 = ad183 := (by injection e183)
                          replace hx183_0 := (HB.out.cell (World.block_lt_of_cell? w _ hx183_0)).trans hx183_0
                          have HR183_0 := Aside0.mk hi183_0
                          have HC183_0 := Aside0.mk hl183_0
                          clear hi183_0 hl183_0
                          replace p183 := eq_true p183
                          replace q183 := eq_true q183
                          refine start_ (n := 24) (S := fun w' => w'.cell? (ad182.add (x9_2).toNat) = some (.slice A182_0 (rd_L1 l0 x9_2).length c182_0) ∧ w'.cell? (ad181.add (x9_2).toNat) = some (.slice A183_0 (rd_L1 l2 x9_2).length c183_0)) (ds := []) #[false, false, false, false, false, false, false, false, false, false, false, false, false, false, false, false, false, false, false, false, false, false, false, false] (by kernel_rfl) rfl rfl ⟨((HB.out.cell (World.block_lt_of_cell? w _ hw182_0)).trans hw182_0), ((HB.out.cell (World.block_lt_of_cell? w _ hw183_0)).trans hw183_0)⟩ (fun hHeld => ?_); refine with_tabW refrainlaw4_untouched.tab13 refrainlaw4_untouched.bits13 (fun HT_ HW_ => ?_)
                          generalize wr.drew = w31 at HB HR182_0 HR183_0 hx182_0 hx183_0 hHeld ⊢
                          refine pure_ (i := 0) (N := some 54) (v := ?_) (a' := ?_) #[true, false, false, false, false, false, false, false, false, false, false, false, false, false, false, false, false, false, false, false, false, false, false, false] rfl rfl (any_of HT_.out (by kernel_rfl)) (fun _ _ _ h => h) (Or.inl ⟨by rfl, ?_⟩) ?_ ?_
                          rotate_left; (focus (intro w'; go_simp; with_reducible rfl)); rotate_left; (focus (simp only [Act.put, List.setIfInBounds_toArray, List.set_cons_zero, List.set_cons_succ, i64_w, i32_w, IntKind.wrap_u8, IntKind.wrap_u16, IntKind.wrap_u32]; rfl))
                          refine pure_ (i := 1) (N := some 55) (v := ?_) (a' := ?_) #[true, true, false, false, false, false, false, false, false, false, false, false, false, false, false, false, false, false, false, false, false, false, false, false] rfl rfl (any_of HT_.out (by kernel_rfl)) (fun _ _ _ h => h) (Or.inl ⟨by rfl, ?_⟩) ?_ ?_
                          rotate_left; (focus (intro w'; go_simp; with_reducible rfl)); rotate_left; (focus (simp only [Act.put, List.setIfInBounds_toArray, List.set_cons_zero, List.set_cons_succ, i64_w, i32_w, IntKind.wrap_u8, IntKind.wrap_u16, IntKind.wrap_u32]; rfl))
                          refine pure_ (i := 2) (N := some 56) (v := ?_) (a' := ?_) #[true, true, true, false, false, false, false, false, false, false, false, false, false, false, false, false, false, false, false, false, false, false, false, false] rfl rfl (any_of HT_.out (by kernel_rfl)) (fun _ _ _ h => h) (Or.inl ⟨by rfl, ?_⟩) ?_ ?_
                          rotate_left; (focus (intro w'; go_simp; with_reducible rfl)); rotate_left; (focus (simp only [Act.put, List.setIfInBounds_toArray, List.set_cons_zero, List.set_cons_succ, i64_w, i32_w, IntKind.wrap_u8, IntKind.wrap_u16, IntKind.wrap_u32]; rfl))
                          refine pure_ (i := 4) (N := some 58) (v := ?_) (a' := ?_) #[true, true, true, false, true, false, false, false, false, false, false, false, false, false, false, false, false, false, false, false, false, false, false, false] rfl rfl (any_of HT_.out (by kernel_rfl)) (fun _ _ _ h => h) (Or.inl ⟨by rfl, ?_⟩) ?_ ?_
                          rotate_left; (focus (intro w'; go_simp; with_reducible rfl)); rotate_left; (focus (simp only [Act.put, List.setIfInBounds_toArray, List.set_cons_zero, List.set_cons_succ, i64_w, i32_w, IntKind.wrap_u8, IntKind.wrap_u16, IntKind.wrap_u32]; rfl))
                          refine pure_ (i := 5) (N := some 59) (v := ?_) (a' := ?_) #[true, true, true, false, true, true, false, false, false, false, false, false, false, false, false, false, false, false, false, false, false, false, false, false] rfl rfl (any_of HT_.out (by kernel_rfl)) (fun _ _ _ h => h) (Or.inl ⟨by rfl, ?_⟩) ?_ ?_
                          rotate_left; (focus (intro w'; go_simp; with_reducible rfl)); rotate_left; (focus (simp only [Act.put, List.setIfInBounds_toArray, List.set_cons_zero, List.set_cons_succ, i64_w, i32_w, IntKind.wrap_u8, IntKind.wrap_u16, IntKind.wrap_u32]; rfl))
                          refine pure_ (i := 6) (N := some 60) (v := ?_) (a' := ?_) #[true, true, true, false, true, true, true, false, false, false, false, false, false, false, false, false, false, false, false, false, false, false, false, false] rfl rfl (any_of HT_.out (by kernel_rfl)) (fun _ _ _ h => h) (Or.inl ⟨by rfl, ?_⟩) ?_ ?_
                          rotate_left; (focus (intro w'; go_simp; with_reducible rfl)); rotate_left; (focus (simp only [Act.put, List.setIfInBounds_toArray, List.set_cons_zero, List.set_cons_succ, i64_w, i32_w, IntKind.wrap_u8, IntKind.wrap_u16, IntKind.wrap_u32]; rfl))
                          refine take_ (i := 3) (N := some 57) (v := ?_) (a' := ?_) #[true, true, true, true, true, true, true, false, false, false, false, false, false, false, false, false, false, false, false, false, false, false, false, false] rfl rfl (take_ofW HT_.out HW_.out (by kernel_rfl)) (fun _ _ _ h => h) (Or.inl ⟨by rfl, ?_⟩) hHeld ?_ ?_
                          rotate_left; (focus (rintro w' ⟨s0, s1⟩; go_simp; with_reducible rfl)); rotate_left; (focus (simp only [Act.put, List.setIfInBounds_toArray, List.set_cons_zero, List.set_cons_succ, i64_w, i32_w, IntKind.wrap_u8, IntKind.wrap_u16, IntKind.wrap_u32]; rfl))
                          refine take_ (i := 7) (N := some 61) (v := ?_) (a' := ?_) #[true, true, true, true, true, true, true, true, false, false, false, false, false, false, false, false, false, false, false, false, false, false, false, false] rfl rfl (take_ofW HT_.out HW_.out (by kernel_rfl)) (fun _ _ _ h => h) (Or.inl ⟨by rfl, ?_⟩) hHeld ?_ ?_
                          rotate_left; (focus (rintro w' ⟨s0, s1⟩; go_simp; with_reducible rfl)); rotate_left; (focus (simp only [Act.put, List.setIfInBounds_toArray, List.set_cons_zero, List.set_cons_succ, i64_w, i32_w, IntKind.wrap_u8, IntKind.wrap_u16, IntKind.wrap_u32]; rfl))
                          refine one_ (i := 8) (N := some 62) #[true, true, true, true, true, true, true, true, true, false, false, false, false, false, false, false, false, false, false, false, false, false, false, false] rfl rfl (one_of HT_.out (by kernel_rfl)) (by decide) (fun K hK => ?_)
                          refine goes_ Tryd.func37 (by kernel_rfl) rfl #[.slice A182_0 (rd_L1 l0 x9_2).length c182_0, .slice A183_0 (rd_L1 l2 x9_2).length c183_0] (by rfl) rfl rfl (by (try simp only [List.map_toArray, List.map_cons, List.map_nil]); first | done | rfl | (simp only [List.length_drop, List.length_take]; rfl)) ?_
                          with_reducible refine (refrainlaw4_sameRow.calls k2 _ _ (rd_L1 l0 x9_2) _ _ (rd_L1 l2 x9_2) false _ ?side1 ?side2 ?side3 ?side4 A23.out).mono ?_
                          (case side1 => repeat (first | exact (Kd.C_below HR182_0.out HB.out) | (with_reducible refine Kd.C_alloc ?_ _) | (with_reducible refine Kd.C_drewN ?_ _) | (with_reducible refine Kd.C_drew ?_)))
                          (case side2 => exact HC182_0.out)
                          (case side3 => repeat (first | exact (Kd.C_below HR183_0.out HB.out) | (with_reducible refine Kd.C_alloc ?_ _) | (with_reducible refine Kd.C_drewN ?_ _) | (with_reducible refine Kd.C_drew ?_)))
                          (case side4 => exact HC183_0.out)
                          rintro e w' ⟨rfl, ⟨nd, rfl⟩⟩
                          refine ⟨_, rfl, ?_⟩
                          refine hK.out _ _ ⟨((HB.out.cell (World.block_lt_of_cell? w _ hw182_0)).trans hw182_0), ((HB.out.cell (World.block_lt_of_cell? w _ hw183_0)).trans hw183_0)⟩ (fun hHeld => ?_)
                          clear hK K
                          refine norm_ (a' := ?_) ?_ ?_
                          rotate_left
                          · show Act.put _ (some 62) _ = _
                            simp only [Act.put, List.setIfInBounds_toArray, List.set_cons_zero, List.set_cons_succ, i64_w, i32_w, IntKind.wrap_u8, IntKind.wrap_u16, IntKind.wrap_u32]
                            rfl
                          refine pure_ (i := 9) (N := some 63) (v := ?_) (a' := ?_) #[true, true, true, true, true, true, true, true, true, true, false, false, false, false, false, false, false, false, false, false, false, false, false, false] rfl rfl (any_of HT_.out (by kernel_rfl)) (fun _ _ _ h => h) (Or.inl ⟨by rfl, ?_⟩) ?_ ?_
                          rotate_left; (focus (intro w'; go_simp; with_reducible rfl)); rotate_left; (focus (simp only [Act.put, List.setIfInBounds_toArray, List.set_cons_zero, List.set_cons_succ, i64_w, i32_w, IntKind.wrap_u8, IntKind.wrap_u16, IntKind.wrap_u32]; rfl))
                          refine pure_ (i := 10) (N := some 64) (v := ?_) (a' := ?_) #[true, true, true, true, true, true, true, true, true, true, true, false, false, false, false, false, false, false, false, false, false, false, false, false] rfl rfl (any_of HT_.out (by kernel_rfl)) (fun _ _ _ h => h) (Or.inl ⟨by rfl, ?_⟩) ?_ ?_
                          rotate_left; (focus (intro w'; go_simp; with_reducible rfl)); rotate_left; (focus (simp only [Act.put, List.setIfInBounds_toArray, List.set_cons_zero, List.set_cons_succ, i64_w, i32_w, IntKind.wrap_u8, IntKind.wrap_u16, IntKind.wrap_u32]; rfl))
                          refine pure_ (i := 11) (N := some 65) (v := undef) (a' := ?_) #[true, true, true, true, true, true, true, true, true, true, true, true, false, false, false, false, false, false, false, false, false, false, false, false] rfl rfl (any_of HT_.out (by kernel_rfl)) (fun _ _ _ h => h) (Or.inr ⟨by rfl, rfl⟩) ?_ ?_
                          rotate_left
                          · simp only [Act.put, List.setIfInBounds_toArray, List.set_cons_zero, List.set_cons_succ, i64_w, i32_w, IntKind.wrap_u8, IntKind.wrap_u16, IntKind.wrap_u32]
                            rfl
                          refine pure_ (i := 12) (N := some 66) (v := undef) (a' := ?_) #[true, true, true, true, true, true, true, true, true, true, true, true, true, false, false, false, false, false, false, false, false, false, false, false] rfl rfl (any_of HT_.out (by kernel_rfl)) (fun _ _ _ h => h) (Or.inr ⟨by rfl, rfl⟩) ?_ ?_
                          rotate_left
                          · simp only [Act.put, List.setIfInBounds_toArray, List.set_cons_zero, List.set_cons_succ, i64_w, i32_w, IntKind.wrap_u8, IntKind.wrap_u16, IntKind.wrap_u32]
                            rfl
                          refine pure_ (i := 13) (N := some 67) (v := undef) (a' := ?_) #[true, true, true, true, true, true, true, true, true, true, true, true, true, true, false, false, false, false, false, false, false, false, false, false] rfl rfl (any_of HT_.out (by kernel_rfl)) (fun _ _ _ h => h) (Or.inr ⟨by rfl, rfl⟩) ?_ ?_
                          rotate_left
                          · simp only [Act.put, List.setIfInBounds_toArray, List.set_cons_zero, List.set_cons_succ, i64_w, i32_w, IntKind.wrap_u8, IntKind.wrap_u16, IntKind.wrap_u32]
                            rfl
                          refine pure_ (i := 14) (N := some 68) (v := undef) (a' := ?_) #[true, true, true, true, true, true, true, true, true, true, true, true, true, true, true, false, false, false, false, false, false, false, false, false] rfl rfl (any_of HT_.out (by kernel_rfl)) (fun _ _ _ h => h) (Or.inr ⟨by rfl, rfl⟩) ?_ ?_
                          rotate_left
                          · simp only [Act.put, List.setIfInBounds_toArray, List.set_cons_zero, List.set_cons_succ, i64_w, i32_w, IntKind.wrap_u8, IntKind.wrap_u16, IntKind.wrap_u32]
                            rfl
                          refine pure_ (i := 15) (N := some 69) (v := undef) (a' := ?_) #[true, true, true, true, true, true, true, true, true, true, true, true, true, true, true, true, false, false, false, false, false, false, false, false] rfl rfl (any_of HT_.out (by kernel_rfl)) (fun _ _ _ h => h) (Or.inr ⟨by rfl, rfl⟩) ?_ ?_
                          rotate_left
                          · simp only [Act.put, List.setIfInBounds_toArray, List.set_cons_zero, List.set_cons_succ, i64_w, i32_w, IntKind.wrap_u8, IntKind.wrap_u16, IntKind.wrap_u32]
                            rfl
                          refine pure_ (i := 16) (N := some 70) (v := undef) (a' := ?_) #[true, true, true, true, true, true, true, true, true, true, true, true, true, true, true, true, true, false, false, false, false, false, false, false] rfl rfl (any_of HT_.out (by kernel_rfl)) (fun _ _ _ h => h) (Or.inr ⟨by rfl, rfl⟩) ?_ ?_
                          rotate_left
                          · simp only [Act.put, List.setIfInBounds_toArray, List.set_cons_zero, List.set_cons_succ, i64_w, i32_w, IntKind.wrap_u8, IntKind.wrap_u16, IntKind.wrap_u32]
                            rfl
                          refine pure_ (i := 17) (N := some 71) (v := undef) (a' := ?_) #[true, true, true, true, true, true, true, true, true, true, true, true, true, true, true, true, true, true, false, false, false, false, false, false] rfl rfl (any_of HT_.out (by kernel_rfl)) (fun _ _ _ h => h) (Or.inr ⟨by rfl, rfl⟩) ?_ ?_
                          rotate_left
                          · simp only [Act.put, List.setIfInBounds_toArray, List.set_cons_zero, List.set_cons_succ, i64_w, i32_w, IntKind.wrap_u8, IntKind.wrap_u16, IntKind.wrap_u32]
                            rfl
                          refine pure_ (i := 18) (N := some 72) (v := undef) (a' := ?_) #[true, true, true, true, true, true, true, true, true, true, true, true, true, true, true, true, true, true, true, false, false, false, false, false] rfl rfl (any_of HT_.out (by kernel_rfl)) (fun _ _ _ h => h) (Or.inr ⟨by rfl, rfl⟩) ?_ ?_
                          rotate_left
                          · simp only [Act.put, List.setIfInBounds_toArray, List.set_cons_zero, List.set_cons_succ, i64_w, i32_w, IntKind.wrap_u8, IntKind.wrap_u16, IntKind.wrap_u32]
                            rfl
                          refine pure_ (i := 19) (N := some 73) (v := undef) (a' := ?_) #[true, true, true, true, true, true, true, true, true, true, true, true, true, true, true, true, true, true, true, true, false, false, false, false] rfl rfl (any_of HT_.out (by kernel_rfl)) (fun _ _ _ h => h) (Or.inr ⟨by rfl, rfl⟩) ?_ ?_
                          rotate_left
                          · simp only [Act.put, List.setIfInBounds_toArray, List.set_cons_zero, List.set_cons_succ, i64_w, i32_w, IntKind.wrap_u8, IntKind.wrap_u16, IntKind.wrap_u32]
                            rfl
                          refine pure_ (i := 20) (N := some 74) (v := undef) (a' := ?_) #[true, true, true, true, true, true, true, true, true, true, true, true, true, true, true, true, true, true, true, true, true, false, false, false] rfl rfl (any_of HT_.out (by kernel_rfl)) (fun _ _ _ h => h) (Or.inr ⟨by rfl, rfl⟩) ?_ ?_
                          rotate_left
                          · simp only [Act.put, List.setIfInBounds_toArray, List.set_cons_zero, List.set_cons_succ, i64_w, i32_w, IntKind.wrap_u8, IntKind.wrap_u16, IntKind.wrap_u32]
                            rfl
                          refine pure_ (i := 21) (N := some 75) (v := undef) (a' := ?_) #[true, true, true, true, true, true, true, true, true, true, true, true, true, true, true, true, true, true, true, true, true, true, false, false] rfl rfl (any_of HT_.out (by kernel_rfl)) (fun _ _ _ h => h) (Or.inr ⟨by rfl, rfl⟩) ?_ ?_
                          rotate_left
                          · simp only [Act.put, List.setIfInBounds_toArray, List.set_cons_zero, List.set_cons_succ, i64_w, i32_w, IntKind.wrap_u8, IntKind.wrap_u16, IntKind.wrap_u32]
                            rfl
                          refine pure_ (i := 22) (N := some 76) (v := undef) (a' := ?_) #[true, true, true, true, true, true, true, true, true, true, true, true, true, true, true, true, true, true, true, true, true, true, true, false] rfl rfl (any_of HT_.out (by kernel_rfl)) (fun _ _ _ h => h) (Or.inr ⟨by rfl, rfl⟩) ?_ ?_
                          rotate_left
                          · simp only [Act.put, List.setIfInBounds_toArray, List.set_cons_zero, List.set_cons_succ, i64_w, i32_w, IntKind.wrap_u8, IntKind.wrap_u16, IntKind.wrap_u32]
                            rfl
                          refine pure_ (i := 23) (N := some 77) (v := ?_) (a' := ?_) #[true, true, true, true, true, true, true, true, true, true, true, true, true, true, true, true, true, true, true, true, true, true, true, true] rfl rfl (any_of HT_.out (by kernel_rfl)) (fun _ _ _ h => h) (Or.inl ⟨by rfl, ?_⟩) ?_ ?_
                          rotate_left; (focus (intro w'; go_simp; with_reducible rfl)); rotate_left; (focus (simp only [Act.put, List.setIfInBounds_toArray, List.set_cons_zero, List.set_cons_succ, i64_w, i32_w, IntKind.wrap_u8, IntKind.wrap_u16, IntKind.wrap_u32]; rfl))
                          refine done_ (done_of HT_.out (by kernel_rfl)) ?_
                          try go_wp2
                          go_meet
                          case rel => exact ⟨_, (true), (by first | rfl | (simp; done) | (simp [*]; done) | (simp; unfold wrap64; omega) | (congr 1; (try rw [Bool.eq_iff_iff]); simp [List.isEmpty_iff]; done)), H', ⟨by have := HK1.out; have := HK2.out; first | omega | exact Nat.le_refl _⟩, ⟨hbT HB.out⟩⟩
                      · rw [if_neg c22] at H
                        exact absurd H (by simp)
                    case rest =>
                      clear HC21
                      try clear c1
                      try clear p1
                      try clear q1
                      try clear hx1
                      try clear qi1
                      try clear c2
                      try clear p2
                      try clear c3
                      try clear c5
                      try clear c5b0
                      try clear p6
                      try clear c7
                      try clear c8
                      try clear c9
                      try clear c9b0
                      try clear c9b1
                      try clear c10
                      try clear c12
                      try clear c12b0
                      try clear c12b1
                      try clear c17
                      try clear p17
                      try clear q17
                      try clear hx17
                      try clear qi17
                      try clear c18
                      try clear c18b0
                      try clear p18
                      try clear q18
                      try clear hx18
                      try clear c19
                      try clear c19b0
                      try clear c20
                      try clear c20b0
                      try clear c22
                      try clear c22b0
                      try clear c24
                      try clear c25
                      try clear c25b0
                      try clear c26
                      try clear c26b0
                      try clear c26b1
                      try clear c27
                      try clear c27b0
                      try clear c27b1
                      try clear hx177_0
                      try clear hx178_0
                      try clear hx179_0
                      try clear hx181_0
                      try clear hx182_0
                      try clear hx183_0
                      try clear hx185_0
                      try clear hx187_0
                      try clear p1
                      try clear p17
                      try clear p177
                      try clear p178
                      try clear p179
                      try clear p181
                      try clear p182
                      try clear p183
                      try clear p185
                      try clear p187
                      try clear p2
                      try clear p6
                      try clear q1
                      try clear q17
                      try clear q177
                      try clear q178
                      try clear q179
                      try clear q181
                      try clear q182
                      try clear q183
                      try clear q185
                      try clear q187
                      obtain ⟨kq, x77_20, rfl, HA, HJ20, HB⟩ := hcut
                      cases kq with
                      | zero => (have HA2 := HA.out; clear HA; revert HA2; rw [refrainlaw4_untouched.j2_zero]; intro h_; cases h_)
                      | succ kj20 =>
                        have H := HA.out
                        clear HA
                        simp only [refrainlaw4_untouched.j2] at H
                        by_cases c32 : x77_20 = true
                        · subst c32
                          have H1 : (some false) = some r := by rw [if_pos rfl] at H; exact H
                          clear H
                          have H := H1
                          clear H1
                          obtain rfl := Option.some.inj H
                          go_wp2
                          go_ret
                          exact ⟨by first | rfl | (simp [errW_none, errW_some] <;> rfl) | (simp [*, errW_none, errW_some] <;> rfl), hbT HB.out⟩
                        · replace c32 := Bool.eq_false_iff.mpr c32
                          subst c32
                          have H1 : (refrainlaw4_untouched.l2 kj20 l0 l1 l2 (l2.length : Int) x9_2 ((rd_L1 l2 x9_2).length : Int) 0) = some r := by rw [if_neg (show ¬ (false = true) by decide)] at H; exact H
                          clear H
                          have H := H1
                          clear H1
                          have H' := Aside0.mk H
                          clear H
                          go_wp2
                          go_loopg [11] kj20 (fun kq v11 w' => ∃ (x11_4 : Int), v11 = .int .i64 x11_4 ∧ Aside0 (refrainlaw4_untouched.l2 kq l0 l1 l2 (l2.length : Int) x9_2 ((rd_L1 l2 x9_2).length : Int) x11_4 = some r) ∧ Aside0 (kq ≤ kj20) ∧ Aside0 (Below w.heap.size w w'))
                          case atStart => exact ⟨(0), (by first | rfl | (simp; done) | (simp [*]; done) | (simp; unfold wrap64; omega) | (congr 1; (try rw [Bool.eq_iff_iff]); simp [List.isEmpty_iff]; done)), H', ⟨Nat.le_refl _⟩, ⟨hbT HB.out⟩⟩
                          case round =>
                            clear H'
                            try clear c1
                            try clear p1
                            try clear q1
                            try clear hx1
                            try clear qi1
                            try clear c2
                            try clear p2
                            try clear c3
                            try clear c5
                            try clear c5b0
                            try clear p6
                            try clear c7
                            try clear c8
                            try clear c9
                            try clear c9b0
                            try clear c9b1
                            try clear c10
                            try clear c12
                            try clear c12b0
                            try clear c12b1
                            try clear c17
                            try clear p17
                            try clear q17
                            try clear hx17
                            try clear qi17
                            try clear c18
                            try clear c18b0
                            try clear p18
                            try clear q18
                            try clear hx18
                            try clear c19
                            try clear c19b0
                            try clear c20
                            try clear c20b0
                            try clear c22
                            try clear c22b0
                            try clear c24
                            try clear c25
                            try clear c25b0
                            try clear c26
                            try clear c26b0
                            try clear c26b1
                            try clear c27
                            try clear c27b0
                            try clear c27b1
                            try clear c32
                            try clear hx177_0
                            try clear hx178_0
                            try clear hx179_0
                            try clear hx181_0
                            try clear hx182_0
                            try clear hx183_0
                            try clear hx185_0
                            try clear hx187_0
                            try clear p1
                            try clear p17
                            try clear p177
                            try clear p178
                            try clear p179
                            try clear p18
                            try clear p181
                            try clear p182
                            try clear p183
                            try clear p185
                            try clear p187
                            try clear p2
                            try clear p6
                            try clear q1
                            try clear q17
                            try clear q177
                            try clear q178
                            try clear q179
                            try clear q18
                            try clear q181
                            try clear q182
                            try clear q183
                            try clear q185
                            try clear q187
                            obtain ⟨x11_4, rfl, HA, HK4, HB⟩ := hrel
                            cases gk with
                            | zero => (have HA2 := HA.out; clear HA; revert HA2; rw [refrainlaw4_untouched.l2_zero]; intro h_; cases h_)
                            | succ k4 =>
                              have H := HA.out
                              clear HA
                              simp only [refrainlaw4_untouched.l2] at H
                              by_cases c33 : x11_4 < 20
                              · rw [if_pos c33] at H
                                have c33b0 : decide (x11_4 < 20) = true := decide_eq_true c33
                                clear c33
                                by_cases c34 : 0 ≤ x9_2
                                · rw [if_pos c34] at H
                                  have c34b0 : decide (0 ≤ x9_2) = true := decide_eq_true c34
                                  clear c34
                                  by_cases c35 : x9_2 < (l1.length : Int)
                                  · rw [if_pos c35] at H
                                    have c35b0 : decide (x9_2 < (l1.length : Int)) = true := decide_eq_true c35
                                    clear c35
                                    obtain ⟨ji36, hji36⟩ : ∃ j_ : Int, (wrap64 (((rd_L1 l2 x9_2).length : Int) + x11_4)) = j_ := ⟨_, rfl⟩
                                    replace H : (if 0 ≤ (ji36) then (if (ji36) < ((rd_L1 l1 x9_2).length : Int) then ((refrainlaw4_word.f x11_4).bind fun t191 => (if (rdOf ByteArray.empty (rd_L1 l1 x9_2) (ji36)).toList = t191.toList then (refrainlaw4_untouched.l2 k4 l0 l1 l2 (l2.length : Int) x9_2 ((rd_L1 l2 x9_2).length : Int) (wrap64 (x11_4 + 1))) else (some false))) else (none)) else (none)) = some r := by first | (rw [hji36] at H; exact H) | (simp only [hji36] at H ⊢; exact H)
                                    have hji36w : (IntKind.i64.wrap (((rd_L1 l2 x9_2).length : Int) + x11_4)) = ji36 := (i64_w _).trans hji36
                                    by_cases c37 : 0 ≤ (ji36)
                                    · rw [if_pos c37] at H
                                      have c37b0 : decide (0 ≤ (ji36)) = true := decide_eq_true c37
                                      clear c37
                                      by_cases c38 : (ji36) < ((rd_L1 l1 x9_2).length : Int)
                                      · rw [if_pos c38] at H
                                        have c38b0 : decide ((ji36) < ((rd_L1 l1 x9_2).length : Int)) = true := decide_eq_true c38
                                        clear c38
                                        replace H := Option.bind_eq_some_iff.mp H
                                        obtain ⟨t191, A390, H⟩ := H
                                        replace H : (if (rdOf ByteArray.empty (rd_L1 l1 x9_2) (ji36)).toList = t191.toList then (refrainlaw4_untouched.l2 k4 l0 l1 l2 (l2.length : Int) x9_2 ((rd_L1 l2 x9_2).length : Int) (wrap64 (x11_4 + 1))) else (some false)) = some r := H
                                        have A39 := Aside0.mk A390
                                        clear A390
                                        by_cases c40 : (rdOf ByteArray.empty (rd_L1 l1 x9_2) (ji36)).toList = t191.toList
                                        · rw [if_pos c40] at H
                                          have c40b0 : ((rdOf ByteArray.empty (rd_L1 l1 x9_2) (ji36)).toList == t191.toList) = true := beq_iff_eq.mpr c40
                                          have c40b1 : ((rdOf ByteArray.empty (rd_L1 l1 x9_2) (ji36)).toList != t191.toList) = false := bne_eq_false_iff_eq.mpr c40
                                          clear c40
                                          have H' := Aside0.mk H
                                          clear H
                                          try go_wp2
                                          replace HB := Aside0.mk (below_drew1 HB.out)
                                          have p189 : 0 ≤ (x9_2 : Int) := of_decide_eq_true (by first | (with_reducible assumption) | assumption)
                                          have q189 : x9_2 < (l1.length : Int) := of_decide_eq_true (by first | (with_reducible assumption) | assumption)
                                          obtain ⟨ad189, A189_0, c189_0, e189, hx189_0, hl189_0, hi189_0⟩ := at_L1 HR1.out x9_2 p189 q189
                                          have hw189_0 := hx189_0
                                          cases e189
                                          replace hx189_0 := (HB.out.cell (World.block_lt_of_cell? w _ hx189_0)).trans hx189_0
                                          have HR189_0 := Aside0.mk hi189_0
                                          have HC189_0 := Aside0.mk hl189_0
                                          clear hi189_0 hl189_0
                                          replace p189 := eq_true p189
                                          replace q189 := eq_true q189
                                          have p190 : 0 ≤ ((ji36) : Int) := of_decide_eq_true (by first | (with_reducible assumption) | assumption)
                                          have q190 : (ji36) < ((rd_L1 l1 x9_2).length : Int) := of_decide_eq_true (by first | (with_reducible assumption) | assumption)
                                          obtain ⟨ad190, e190, hx190_0⟩ := Kd.at_string HR189_0.out (ji36) p190 q190
                                          have hw190_0 := hx190_0
                                          cases e190
                                          replace hx190_0 := (HB.out.cell (World.block_lt_of_cell? w _ hx190_0)).trans hx190_0
                                          replace p190 := eq_true p190
                                          replace q190 := eq_true q190
                                          refine start_ (n := 12) (S := fun w' => w'.cell? (ad189.add (x9_2).toNat) = some (.slice (some ad190) (rd_L1 l1 x9_2).length c189_0) ∧ w'.cell? (ad190.add ((ji36)).toNat) = some (.string (rdOf ByteArray.empty (rd_L1 l1 x9_2) (ji36)))) (ds := []) #[false, false, false, false, false, false, false, false, false, false, false, false] (by kernel_rfl) rfl rfl ⟨((HB.out.cell (World.block_lt_of_cell? w _ hw189_0)).trans hw189_0), ((HB.out.cell (World.block_lt_of_cell? w _ hw190_0)).trans hw190_0)⟩ (fun hHeld => ?_); refine with_tabW refrainlaw4_untouched.tab18 refrainlaw4_untouched.bits18 (fun HT_ HW_ => ?_)
                                          generalize wr.drew = w41 at HB HR189_0 hx189_0 hx190_0 hHeld ⊢
                                          refine pure_ (i := 0) (N := some 82) (v := ?_) (a' := ?_) #[true, false, false, false, false, false, false, false, false, false, false, false] rfl rfl (any_of HT_.out (by kernel_rfl)) (fun _ _ _ h => h) (Or.inl ⟨by rfl, ?_⟩) ?_ ?_
                                          rotate_left; (focus (intro w'; go_simp; with_reducible rfl)); rotate_left; (focus (simp only [Act.put, List.setIfInBounds_toArray, List.set_cons_zero, List.set_cons_succ, i64_w, i32_w, IntKind.wrap_u8, IntKind.wrap_u16, IntKind.wrap_u32]; rfl))
                                          refine pure_ (i := 1) (N := some 83) (v := ?_) (a' := ?_) #[true, true, false, false, false, false, false, false, false, false, false, false] rfl rfl (any_of HT_.out (by kernel_rfl)) (fun _ _ _ h => h) (Or.inl ⟨by rfl, ?_⟩) ?_ ?_
                                          rotate_left; (focus (intro w'; go_simp; with_reducible rfl)); rotate_left; (focus (simp only [Act.put, List.setIfInBounds_toArray, List.set_cons_zero, List.set_cons_succ, i64_w, i32_w, IntKind.wrap_u8, IntKind.wrap_u16, IntKind.wrap_u32]; rfl))
                                          refine pure_ (i := 2) (N := some 84) (v := ?_) (a' := ?_) #[true, true, true, false, false, false, false, false, false, false, false, false] rfl rfl (any_of HT_.out (by kernel_rfl)) (fun _ _ _ h => h) (Or.inl ⟨by rfl, ?_⟩) ?_ ?_
                                          rotate_left; (focus (intro w'; go_simp; with_reducible rfl)); rotate_left; (focus (simp only [Act.put, List.setIfInBounds_toArray, List.set_cons_zero, List.set_cons_succ, i64_w, i32_w, IntKind.wrap_u8, IntKind.wrap_u16, IntKind.wrap_u32]; rfl))
                                          refine pure_ (i := 4) (N := some 86) (v := ?_) (a' := ?_) #[true, true, true, false, true, false, false, false, false, false, false, false] rfl rfl (any_of HT_.out (by kernel_rfl)) (fun _ _ _ h => h) (Or.inl ⟨by rfl, ?_⟩) ?_ ?_
                                          rotate_left; (focus (intro w'; go_simp; with_reducible rfl)); rotate_left; (focus (simp only [Act.put, List.setIfInBounds_toArray, List.set_cons_zero, List.set_cons_succ, i64_w, i32_w, IntKind.wrap_u8, IntKind.wrap_u16, IntKind.wrap_u32]; rfl))
                                          refine pure_ (i := 5) (N := some 87) (v := ?_) (a' := ?_) #[true, true, true, false, true, true, false, false, false, false, false, false] rfl rfl (any_of HT_.out (by kernel_rfl)) (fun _ _ _ h => h) (Or.inl ⟨by rfl, ?_⟩) ?_ ?_
                                          rotate_left; (focus (intro w'; go_simp; with_reducible rfl)); rotate_left; (focus (simp only [Act.put, List.setIfInBounds_toArray, List.set_cons_zero, List.set_cons_succ, i64_w, i32_w, IntKind.wrap_u8, IntKind.wrap_u16, IntKind.wrap_u32]; rfl))
                                          refine pure_ (i := 6) (N := some 88) (v := ?_) (a' := ?_) #[true, true, true, false, true, true, true, false, false, false, false, false] rfl rfl (any_of HT_.out (by kernel_rfl)) (fun _ _ _ h => h) (Or.inl ⟨by rfl, ?_⟩) ?_ ?_
                                          rotate_left; (focus (intro w'; go_simp; with_reducible rfl)); rotate_left; (focus (simp only [Act.put, List.setIfInBounds_toArray, List.set_cons_zero, List.set_cons_succ, i64_w, i32_w, IntKind.wrap_u8, IntKind.wrap_u16, IntKind.wrap_u32]; rfl))
                                          refine pure_ (i := 9) (N := some 91) (v := ?_) (a' := ?_) #[true, true, true, false, true, true, true, false, false, true, false, false] rfl rfl (any_of HT_.out (by kernel_rfl)) (fun _ _ _ h => h) (Or.inl ⟨by rfl, ?_⟩) ?_ ?_
                                          rotate_left; (focus (intro w'; go_simp; with_reducible rfl)); rotate_left; (focus (simp only [Act.put, List.setIfInBounds_toArray, List.set_cons_zero, List.set_cons_succ, i64_w, i32_w, IntKind.wrap_u8, IntKind.wrap_u16, IntKind.wrap_u32]; rfl))
                                          refine take_ (i := 3) (N := some 85) (v := ?_) (a' := ?_) #[true, true, true, true, true, true, true, false, false, true, false, false] rfl rfl (take_ofW HT_.out HW_.out (by kernel_rfl)) (fun _ _ _ h => h) (Or.inl ⟨by rfl, ?_⟩) hHeld ?_ ?_
                                          rotate_left; (focus (rintro w' ⟨s0, s1⟩; go_simp; with_reducible rfl)); rotate_left; (focus (simp only [Act.put, List.setIfInBounds_toArray, List.set_cons_zero, List.set_cons_succ, i64_w, i32_w, IntKind.wrap_u8, IntKind.wrap_u16, IntKind.wrap_u32]; rfl))
                                          refine pure_ (i := 7) (N := some 89) (v := ?_) (a' := ?_) #[true, true, true, true, true, true, true, true, false, true, false, false] rfl rfl (any_of HT_.out (by kernel_rfl)) (fun _ _ _ h => h) (Or.inl ⟨by rfl, ?_⟩) ?_ ?_
                                          rotate_left; (focus (intro w'; go_simp; with_reducible rfl)); rotate_left; (focus (simp only [Act.put, List.setIfInBounds_toArray, List.set_cons_zero, List.set_cons_succ, i64_w, i32_w, IntKind.wrap_u8, IntKind.wrap_u16, IntKind.wrap_u32]; rfl))
                                          refine take_ (i := 8) (N := some 90) (v := ?_) (a' := ?_) #[true, true, true, true, true, true, true, true, true, true, false, false] rfl rfl (take_ofW HT_.out HW_.out (by kernel_rfl)) (fun _ _ _ h => h) (Or.inl ⟨by rfl, ?_⟩) hHeld ?_ ?_
                                          rotate_left; (focus (rintro w' ⟨s0, s1⟩; go_simp; with_reducible rfl)); rotate_left; (focus (simp only [Act.put, List.setIfInBounds_toArray, List.set_cons_zero, List.set_cons_succ, i64_w, i32_w, IntKind.wrap_u8, IntKind.wrap_u16, IntKind.wrap_u32]; rfl))
                                          refine one_ (i := 10) (N := some 92) #[true, true, true, true, true, true, true, true, true, true, true, false] rfl rfl (one_of HT_.out (by kernel_rfl)) (by decide) (fun K hK => ?_)
                                          refine goes_ Tryd.func38 (by kernel_rfl) rfl #[.int .i64 x11_4] (by rfl) rfl rfl (by (try simp only [List.map_toArray, List.map_cons, List.map_nil]); first | done | rfl | (simp only [List.length_drop, List.length_take]; rfl)) ?_
                                          with_reducible refine (refrainlaw4_word.calls x11_4 t191 _ A39.out).mono ?_
                                          rintro e w42 ⟨rfl, hb⟩
                                          refine ⟨_, rfl, ?_⟩
                                          replace HB := bsA HB hb
                                          (try clear hb); (try clear hb2); (try clear hk); (try clear hi)
                                          refine hK.out _ _ ⟨((HB.out.cell (World.block_lt_of_cell? w _ hw189_0)).trans hw189_0), ((HB.out.cell (World.block_lt_of_cell? w _ hw190_0)).trans hw190_0)⟩ (fun hHeld => ?_)
                                          clear hK K
                                          refine norm_ (a' := ?_) ?_ ?_
                                          rotate_left
                                          · show Act.put _ (some 92) _ = _
                                            simp only [Act.put, List.setIfInBounds_toArray, List.set_cons_zero, List.set_cons_succ, i64_w, i32_w, IntKind.wrap_u8, IntKind.wrap_u16, IntKind.wrap_u32]
                                            rfl
                                          refine pure_ (i := 11) (N := some 93) (v := ?_) (a' := ?_) #[true, true, true, true, true, true, true, true, true, true, true, true] rfl rfl (any_of HT_.out (by kernel_rfl)) (fun _ _ _ h => h) (Or.inl ⟨by rfl, ?_⟩) ?_ ?_
                                          rotate_left; (focus (intro w'; go_simp; with_reducible rfl)); rotate_left; (focus (simp only [Act.put, List.setIfInBounds_toArray, List.set_cons_zero, List.set_cons_succ, i64_w, i32_w, IntKind.wrap_u8, IntKind.wrap_u16, IntKind.wrap_u32]; rfl))
                                          refine done_ (done_of HT_.out (by kernel_rfl)) ?_
                                          try go_wp2
                                          go_roundg k4
                                          case measure => have := HK1.out; have := HK2.out; have := HJ20.out; have := HK4.out; omega
                                          case rel => exact ⟨(wrap64 (x11_4 + 1)), (by first | rfl | (simp; done) | (simp [*]; done) | (simp; unfold wrap64; omega) | (congr 1; (try rw [Bool.eq_iff_iff]); simp [List.isEmpty_iff]; done)), H', ⟨by have := HK1.out; have := HK2.out; have := HJ20.out; have := HK4.out; omega⟩, ⟨hbT HB.out⟩⟩
                                        · rw [if_neg c40] at H
                                          have c40b0 : ((rdOf ByteArray.empty (rd_L1 l1 x9_2) (ji36)).toList == t191.toList) = false := beq_eq_false_iff_ne.mpr c40
                                          have c40b1 : ((rdOf ByteArray.empty (rd_L1 l1 x9_2) (ji36)).toList != t191.toList) = true := bne_iff_ne.mpr c40
                                          obtain rfl := Option.some.inj H
                                          try go_wp2
                                          replace HB := Aside0.mk (below_drew1 HB.out)
                                          have p189 : 0 ≤ (x9_2 : Int) := of_decide_eq_true (by first | (with_reducible assumption) | assumption)
                                          have q189 : x9_2 < (l1.length : Int) := of_decide_eq_true (by first | (with_reducible assumption) | assumption)
                                          obtain ⟨ad189, A189_0, c189_0, e189, hx189_0, hl189_0, hi189_0⟩ := at_L1 HR1.out x9_2 p189 q189
                                          have hw189_0 := hx189_0
                                          cases e189
                                          replace hx189_0 := (HB.out.cell (World.block_lt_of_cell? w _ hx189_0)).trans hx189_0
                                          have HR189_0 := Aside0.mk hi189_0
                                          have HC189_0 := Aside0.mk hl189_0
                                          clear hi189_0 hl189_0
                                          replace p189 := eq_true p189
                                          replace q189 := eq_true q189
                                          have p190 : 0 ≤ ((ji36) : Int) := of_decide_eq_true (by first | (with_reducible assumption) | assumption)
                                          have q190 : (ji36) < ((rd_L1 l1 x9_2).length : Int) := of_decide_eq_true (by first | (with_reducible assumption) | assumption)
                                          obtain ⟨ad190, e190, hx190_0⟩ := Kd.at_string HR189_0.out (ji36) p190 q190
                                          have hw190_0 := hx190_0
                                          cases e190
                                          replace hx190_0 := (HB.out.cell (World.block_lt_of_cell? w _ hx190_0)).trans hx190_0
                                          replace p190 := eq_true p190
                                          replace q190 := eq_true q190
                                          refine start_ (n := 12) (S := fun w' => w'.cell? (ad189.add (x9_2).toNat) = some (.slice (some ad190) (rd_L1 l1 x9_2).length c189_0) ∧ w'.cell? (ad190.add ((ji36)).toNat) = some (.string (rdOf ByteArray.empty (rd_L1 l1 x9_2) (ji36)))) (ds := []) #[false, false, false, false, false, false, false, false, false, false, false, false] (by kernel_rfl) rfl rfl ⟨((HB.out.cell (World.block_lt_of_cell? w _ hw189_0)).trans hw189_0), ((HB.out.cell (World.block_lt_of_cell? w _ hw190_0)).trans hw190_0)⟩ (fun hHeld => ?_); refine with_tabW refrainlaw4_untouched.tab18 refrainlaw4_untouched.bits18 (fun HT_ HW_ => ?_)
                                          generalize wr.drew = w43 at HB HR189_0 hx189_0 hx190_0 hHeld ⊢
                                          refine pure_ (i := 0) (N := some 82) (v := ?_) (a' := ?_) #[true, false, false, false, false, false, false, false, false, false, false, false] rfl rfl (any_of HT_.out (by kernel_rfl)) (fun _ _ _ h => h) (Or.inl ⟨by rfl, ?_⟩) ?_ ?_
                                          rotate_left; (focus (intro w'; go_simp; with_reducible rfl)); rotate_left; (focus (simp only [Act.put, List.setIfInBounds_toArray, List.set_cons_zero, List.set_cons_succ, i64_w, i32_w, IntKind.wrap_u8, IntKind.wrap_u16, IntKind.wrap_u32]; rfl))
                                          refine pure_ (i := 1) (N := some 83) (v := ?_) (a' := ?_) #[true, true, false, false, false, false, false, false, false, false, false, false] rfl rfl (any_of HT_.out (by kernel_rfl)) (fun _ _ _ h => h) (Or.inl ⟨by rfl, ?_⟩) ?_ ?_
                                          rotate_left; (focus (intro w'; go_simp; with_reducible rfl)); rotate_left; (focus (simp only [Act.put, List.setIfInBounds_toArray, List.set_cons_zero, List.set_cons_succ, i64_w, i32_w, IntKind.wrap_u8, IntKind.wrap_u16, IntKind.wrap_u32]; rfl))
                                          refine pure_ (i := 2) (N := some 84) (v := ?_) (a' := ?_) #[true, true, true, false, false, false, false, false, false, false, false, false] rfl rfl (any_of HT_.out (by kernel_rfl)) (fun _ _ _ h => h) (Or.inl ⟨by rfl, ?_⟩) ?_ ?_
                                          rotate_left; (focus (intro w'; go_simp; with_reducible rfl)); rotate_left; (focus (simp only [Act.put, List.setIfInBounds_toArray, List.set_cons_zero, List.set_cons_succ, i64_w, i32_w, IntKind.wrap_u8, IntKind.wrap_u16, IntKind.wrap_u32]; rfl))
                                          refine pure_ (i := 4) (N := some 86) (v := ?_) (a' := ?_) #[true, true, true, false, true, false, false, false, false, false, false, false] rfl rfl (any_of HT_.out (by kernel_rfl)) (fun _ _ _ h => h) (Or.inl ⟨by rfl, ?_⟩) ?_ ?_
                                          rotate_left; (focus (intro w'; go_simp; with_reducible rfl)); rotate_left; (focus (simp only [Act.put, List.setIfInBounds_toArray, List.set_cons_zero, List.set_cons_succ, i64_w, i32_w, IntKind.wrap_u8, IntKind.wrap_u16, IntKind.wrap_u32]; rfl))
                                          refine pure_ (i := 5) (N := some 87) (v := ?_) (a' := ?_) #[true, true, true, false, true, true, false, false, false, false, false, false] rfl rfl (any_of HT_.out (by kernel_rfl)) (fun _ _ _ h => h) (Or.inl ⟨by rfl, ?_⟩) ?_ ?_
                                          rotate_left; (focus (intro w'; go_simp; with_reducible rfl)); rotate_left; (focus (simp only [Act.put, List.setIfInBounds_toArray, List.set_cons_zero, List.set_cons_succ, i64_w, i32_w, IntKind.wrap_u8, IntKind.wrap_u16, IntKind.wrap_u32]; rfl))
                                          refine pure_ (i := 6) (N := some 88) (v := ?_) (a' := ?_) #[true, true, true, false, true, true, true, false, false, false, false, false] rfl rfl (any_of HT_.out (by kernel_rfl)) (fun _ _ _ h => h) (Or.inl ⟨by rfl, ?_⟩) ?_ ?_
                                          rotate_left; (focus (intro w'; go_simp; with_reducible rfl)); rotate_left; (focus (simp only [Act.put, List.setIfInBounds_toArray, List.set_cons_zero, List.set_cons_succ, i64_w, i32_w, IntKind.wrap_u8, IntKind.wrap_u16, IntKind.wrap_u32]; rfl))
                                          refine pure_ (i := 9) (N := some 91) (v := ?_) (a' := ?_) #[true, true, true, false, true, true, true, false, false, true, false, false] rfl rfl (any_of HT_.out (by kernel_rfl)) (fun _ _ _ h => h) (Or.inl ⟨by rfl, ?_⟩) ?_ ?_
                                          rotate_left; (focus (intro w'; go_simp; with_reducible rfl)); rotate_left; (focus (simp only [Act.put, List.setIfInBounds_toArray, List.set_cons_zero, List.set_cons_succ, i64_w, i32_w, IntKind.wrap_u8, IntKind.wrap_u16, IntKind.wrap_u32]; rfl))
                                          refine take_ (i := 3) (N := some 85) (v := ?_) (a' := ?_) #[true, true, true, true, true, true, true, false, false, true, false, false] rfl rfl (take_ofW HT_.out HW_.out (by kernel_rfl)) (fun _ _ _ h => h) (Or.inl ⟨by rfl, ?_⟩) hHeld ?_ ?_
                                          rotate_left; (focus (rintro w' ⟨s0, s1⟩; go_simp; with_reducible rfl)); rotate_left; (focus (simp only [Act.put, List.setIfInBounds_toArray, List.set_cons_zero, List.set_cons_succ, i64_w, i32_w, IntKind.wrap_u8, IntKind.wrap_u16, IntKind.wrap_u32]; rfl))
                                          refine pure_ (i := 7) (N := some 89) (v := ?_) (a' := ?_) #[true, true, true, true, true, true, true, true, false, true, false, false] rfl rfl (any_of HT_.out (by kernel_rfl)) (fun _ _ _ h => h) (Or.inl ⟨by rfl, ?_⟩) ?_ ?_
                                          rotate_left; (focus (intro w'; go_simp; with_reducible rfl)); rotate_left; (focus (simp only [Act.put, List.setIfInBounds_toArray, List.set_cons_zero, List.set_cons_succ, i64_w, i32_w, IntKind.wrap_u8, IntKind.wrap_u16, IntKind.wrap_u32]; rfl))
                                          refine take_ (i := 8) (N := some 90) (v := ?_) (a' := ?_) #[true, true, true, true, true, true, true, true, true, true, false, false] rfl rfl (take_ofW HT_.out HW_.out (by kernel_rfl)) (fun _ _ _ h => h) (Or.inl ⟨by rfl, ?_⟩) hHeld ?_ ?_
                                          rotate_left; (focus (rintro w' ⟨s0, s1⟩; go_simp; with_reducible rfl)); rotate_left; (focus (simp only [Act.put, List.setIfInBounds_toArray, List.set_cons_zero, List.set_cons_succ, i64_w, i32_w, IntKind.wrap_u8, IntKind.wrap_u16, IntKind.wrap_u32]; rfl))
                                          refine one_ (i := 10) (N := some 92) #[true, true, true, true, true, true, true, true, true, true, true, false] rfl rfl (one_of HT_.out (by kernel_rfl)) (by decide) (fun K hK => ?_)
                                          refine goes_ Tryd.func38 (by kernel_rfl) rfl #[.int .i64 x11_4] (by rfl) rfl rfl (by (try simp only [List.map_toArray, List.map_cons, List.map_nil]); first | done | rfl | (simp only [List.length_drop, List.length_take]; rfl)) ?_
                                          with_reducible refine (refrainlaw4_word.calls x11_4 t191 _ A39.out).mono ?_
                                          rintro e w44 ⟨rfl, hb⟩
                                          refine ⟨_, rfl, ?_⟩
                                          replace HB := bsA HB hb
                                          (try clear hb); (try clear hb2); (try clear hk); (try clear hi)
                                          refine hK.out _ _ ⟨((HB.out.cell (World.block_lt_of_cell? w _ hw189_0)).trans hw189_0), ((HB.out.cell (World.block_lt_of_cell? w _ hw190_0)).trans hw190_0)⟩ (fun hHeld => ?_)
                                          clear hK K
                                          refine norm_ (a' := ?_) ?_ ?_
                                          rotate_left
                                          · show Act.put _ (some 92) _ = _
                                            simp only [Act.put, List.setIfInBounds_toArray, List.set_cons_zero, List.set_cons_succ, i64_w, i32_w, IntKind.wrap_u8, IntKind.wrap_u16, IntKind.wrap_u32]
                                            rfl
                                          refine pure_ (i := 11) (N := some 93) (v := ?_) (a' := ?_) #[true, true, true, true, true, true, true, true, true, true, true, true] rfl rfl (any_of HT_.out (by kernel_rfl)) (fun _ _ _ h => h) (Or.inl ⟨by rfl, ?_⟩) ?_ ?_
                                          rotate_left; (focus (intro w'; go_simp; with_reducible rfl)); rotate_left; (focus (simp only [Act.put, List.setIfInBounds_toArray, List.set_cons_zero, List.set_cons_succ, i64_w, i32_w, IntKind.wrap_u8, IntKind.wrap_u16, IntKind.wrap_u32]; rfl))
                                          refine done_ (done_of HT_.out (by kernel_rfl)) ?_
                                          try go_wp2
                                          go_ret
                                          exact ⟨by first | rfl | (simp [errW_none, errW_some] <;> rfl) | (simp only [← hji36]; first | rfl | (simp [errW_none, errW_some] <;> rfl)) | (simp [*, errW_none, errW_some] <;> rfl), hbT HB.out⟩
                                      · rw [if_neg c38] at H
                                        exact absurd H (by simp)
                                    · rw [if_neg c37] at H
                                      exact absurd H (by simp)
                                  · rw [if_neg c35] at H
                                    exact absurd H (by simp)
                                · rw [if_neg c34] at H
                                  exact absurd H (by simp)
                              · rw [if_neg c33] at H
                                have c33b0 : decide (x11_4 < 20) = false := decide_eq_false c33
                                clear c33
                                have H' := Aside0.mk H
                                clear H
                                go_wp2
                                go_roundg k4
                                case measure => have := HK1.out; have := HK2.out; have := HJ20.out; have := HK4.out; omega
                                case rel => exact ⟨(wrap64 (x9_2 + 1)), (by first | rfl | (simp; done) | (simp [*]; done) | (simp; unfold wrap64; omega) | (congr 1; (try rw [Bool.eq_iff_iff]); simp [List.isEmpty_iff]; done)), H', ⟨by have := HK1.out; have := HK2.out; have := HJ20.out; have := HK4.out; omega⟩, ⟨hbT HB.out⟩⟩
                  · rw [if_neg c20] at H
                    exact absurd H (by simp)
                · rw [if_neg c19] at H
                  exact absurd H (by simp)
              · rw [if_neg c18] at H
                have c18b0 : decide (x9_2 < (l2.length : Int)) = false := decide_eq_false c18
                clear c18
                obtain rfl := Option.some.inj H
                go_wp2
                go_ret
                exact ⟨by first | rfl | (simp [errW_none, errW_some] <;> rfl) | (simp [*, errW_none, errW_some] <;> rfl), hbT HB.out⟩
  · rw [if_neg c4] at H
    have c4b0 : ((l0.length : Int) == (wrap64 ((l2.length : Int) + 20))) = false := beq_eq_false_iff_ne.mpr c4
    have c4b1 : ((l0.length : Int) != (wrap64 ((l2.length : Int) + 20))) = true := bne_iff_ne.mpr c4
    obtain rfl := Option.some.inj H
    go_enter Tryd.func20, Tryd.ntmps20
    go_wp2
    go_ret
    exact ⟨by first | rfl | (simp [errW_none, errW_some] <;> rfl) | (simp [*, errW_none, errW_some] <;> rfl), hbT HB.out⟩

/-! ### refrainlaw4_CsvThere: function 5 -/
mutual
def refrainlaw4_CsvThere.l0 : Nat → List (List ByteArray) → ByteArray → Int → Int → Int → Option (Bool)
  | 0, _, _, _, _, _ => none
  | k + 1, x0, x4, x5, x6, x7 => if x7 < (x0.length : Int) then (if 0 ≤ x7 then (if ((rd_L1 x0 x7).length : Int) = 0 then (if x5 = 41 then (some (x4.toList == ([] : List UInt8))) else (some false)) else (refrainlaw4_CsvThere.l1 k x0 x4 x5 x6 x7 0)) else (none)) else (if x5 = 0 then ((csv_Split.f x4).bind fun bt201 => (if bt201.2.2 = 0 then (if bt201.2.1 = 0 then (if (x4.size : Int) ≤ 65536 then ((refrainlaw4_same.f k bt201.1 x0).bind fun t206 => (some t206)) else (some false)) else (some false)) else (some false))) else (if x5 = 2 then (if x4.toList = ([] : List UInt8) then (some (decide (x6 > 65536))) else (some false)) else (some false)))
def refrainlaw4_CsvThere.l1 : Nat → List (List ByteArray) → ByteArray → Int → Int → Int → Int → Option (Bool)
  | 0, _, _, _, _, _, _ => none
  | k + 1, x0, x4, x5, x6, x7, x8 => if 0 ≤ x7 then (if x7 < (x0.length : Int) then (if x8 < ((rd_L1 x0 x7).length : Int) then (if 0 ≤ x8 then (refrainlaw4_CsvThere.l1 k x0 x4 x5 (wrap64 ((wrap64 (x6 + (wrap64 (2 * ((rdOf ByteArray.empty (rd_L1 x0 x7) x8).size : Int))))) + 4)) x7 (wrap64 (x8 + 1))) else (none)) else (refrainlaw4_CsvThere.l0 k x0 x4 x5 x6 (wrap64 (x7 + 1)))) else (none)) else (none)
end
def refrainlaw4_CsvThere.f (k : Nat) (l0 : List (List ByteArray)) : Option (Bool) := (refrainlaw4_begun.f).bind fun t194 => (if t194 = true then ((csv_Join.f l0).bind fun bt195 => (refrainlaw4_CsvThere.l0 k l0 bt195.1 bt195.2 0 0)) else (some false))
set_option maxRecDepth 100000 in
theorem refrainlaw4_CsvThere.l0_zero : ∀ y0 y1 y2 y3 y4, refrainlaw4_CsvThere.l0 0 y0 y1 y2 y3 y4 = none := fun _ _ _ _ _ => rfl
set_option maxRecDepth 100000 in
theorem refrainlaw4_CsvThere.l1_zero : ∀ y0 y1 y2 y3 y4 y5, refrainlaw4_CsvThere.l1 0 y0 y1 y2 y3 y4 y5 = none := fun _ _ _ _ _ _ => rfl
set_option maxRecDepth 100000 in
theorem refrainlaw4_CsvThere.mono_l : ∀ k, (∀ y0 y1 y2 y3 y4, LeO (refrainlaw4_CsvThere.l0 k y0 y1 y2 y3 y4) (refrainlaw4_CsvThere.l0 (k + 1) y0 y1 y2 y3 y4)) ∧ (∀ y0 y1 y2 y3 y4 y5, LeO (refrainlaw4_CsvThere.l1 k y0 y1 y2 y3 y4 y5) (refrainlaw4_CsvThere.l1 (k + 1) y0 y1 y2 y3 y4 y5))
  | 0 => ⟨fun _ _ _ _ _ r h => by (unfold refrainlaw4_CsvThere.l0 at h; cases h), fun _ _ _ _ _ _ r h => by (unfold refrainlaw4_CsvThere.l1 at h; cases h)⟩
  | k + 1 => by
    obtain ⟨ih0, ih1⟩ := refrainlaw4_CsvThere.mono_l k
    refine ⟨?_, ?_⟩
    · intro y0 y1 y2 y3 y4
      unfold refrainlaw4_CsvThere.l0
      repeat' first
      | (with_reducible exact ih0 _ _ _ _ _)
      | (with_reducible exact ih1 _ _ _ _ _ _)
      | (with_reducible exact refrainlaw4_same.mono _ _ _)
      | (with_reducible exact LeO.refl _)
      | (with_reducible exact LeO.none _)
      | (with_reducible refine LeO.ite ?_ ?_)
      | (with_reducible refine LeO.bind ?_ (fun _ => ?_))
      | exact ih0 _ _ _ _ _
      | exact ih1 _ _ _ _ _ _
      | exact refrainlaw4_same.mono _ _ _
      | exact LeO.none _
      | refine LeO.ite ?_ ?_
      | refine LeO.bind ?_ (fun _ => ?_)
    · intro y0 y1 y2 y3 y4 y5
      unfold refrainlaw4_CsvThere.l1
      repeat' first
      | (with_reducible exact ih0 _ _ _ _ _)
      | (with_reducible exact ih1 _ _ _ _ _ _)
      | (with_reducible exact refrainlaw4_same.mono _ _ _)
      | (with_reducible exact LeO.refl _)
      | (with_reducible exact LeO.none _)
      | (with_reducible refine LeO.ite ?_ ?_)
      | (with_reducible refine LeO.bind ?_ (fun _ => ?_))
      | exact ih0 _ _ _ _ _
      | exact ih1 _ _ _ _ _ _
      | exact refrainlaw4_same.mono _ _ _
      | exact LeO.none _
      | refine LeO.ite ?_ ?_
      | refine LeO.bind ?_ (fun _ => ?_)
set_option maxRecDepth 100000 in
theorem refrainlaw4_CsvThere.mono : ∀ a0 k, LeO (refrainlaw4_CsvThere.f k a0) (refrainlaw4_CsvThere.f (k + 1) a0) := by
  intro a0 k
  obtain ⟨ih0, ih1⟩ := refrainlaw4_CsvThere.mono_l k
  unfold refrainlaw4_CsvThere.f
  repeat' first
      | (with_reducible exact ih0 _ _ _ _ _)
      | (with_reducible exact ih1 _ _ _ _ _ _)
      | (with_reducible exact refrainlaw4_same.mono _ _ _)
      | (with_reducible exact LeO.refl _)
      | (with_reducible exact LeO.none _)
      | (with_reducible refine LeO.ite ?_ ?_)
      | (with_reducible refine LeO.bind ?_ (fun _ => ?_))
      | exact ih0 _ _ _ _ _
      | exact ih1 _ _ _ _ _ _
      | exact refrainlaw4_same.mono _ _ _
      | exact LeO.none _
      | refine LeO.ite ?_ ?_
      | refine LeO.bind ?_ (fun _ => ?_)
set_option maxHeartbeats 8000000 in
set_option maxRecDepth 100000 in
theorem refrainlaw4_CsvThere.calls (k : Nat) (A0 : Option Addr) (c0 : Nat) (l0 : List (List ByteArray)) (r : Bool) (w : World) (hr0 : Kd.C (Kd.slice 9 Kd.string) w A0 l0.length l0) (hc0 : l0.length ≤ c0) (HL_LMax : Aside0 (LMax w)) (h : refrainlaw4_CsvThere.f k l0 = some r) :
    Calls Tryd.prog 5 #[.slice A0 l0.length c0] w fun e w' => e = .returned (.bool r) ∧ Below w.heap.size w w' := by
  have HR0 := Aside0.mk hr0
  have HC0 := Aside0.mk hc0
  clear hr0 hc0
  have HB := Aside0.mk (Below.refl w.heap.size w)
  have H : ((refrainlaw4_begun.f).bind fun t194 => (if t194 = true then ((csv_Join.f l0).bind fun bt195 => (refrainlaw4_CsvThere.l0 k l0 bt195.1 bt195.2 0 0)) else (some false))) = some r := h
  clear h
  replace H := Option.bind_eq_some_iff.mp H
  obtain ⟨t194, A20, H⟩ := H
  replace H : (if t194 = true then ((csv_Join.f l0).bind fun bt195 => (refrainlaw4_CsvThere.l0 k l0 bt195.1 bt195.2 0 0)) else (some false)) = some r := H
  have A2 := Aside0.mk A20
  clear A20
  by_cases c3 : t194 = true
  · subst c3
    have H1 : ((csv_Join.f l0).bind fun bt195 => (refrainlaw4_CsvThere.l0 k l0 bt195.1 bt195.2 0 0)) = some r := by rw [if_pos rfl] at H; exact H
    clear H
    have H := H1
    clear H1
    replace H := Option.bind_eq_some_iff.mp H
    obtain ⟨⟨t195, t196⟩, A40, H⟩ := H
    replace H : (refrainlaw4_CsvThere.l0 k l0 t195 t196 0 0) = some r := H
    have A4 := Aside0.mk A40
    clear A40
    have H' := Aside0.mk H
    clear H
    go_enter Tryd.func5, Tryd.ntmps5
    go_wp2_with (first | ((with_reducible refine gate_callee (f := 13) rfl ?_); refine goesT (some 12) Tryd.func13 #[] ?_; (with_reducible refine (refrainlaw4_begun.calls  true _ ?side1 A2.out).mono ?_); (case side1 => first | (with_reducible exact HL_LMax) | exact ⟨LMax.below HL_LMax.out (hbT HB.out)⟩); rintro e w5 ⟨rfl, hb⟩; refine ⟨_, rfl, ?_⟩; replace HB := bsA HB hb; (try clear hb); (try clear hb2); (try clear hk); (try clear hi)) | ((with_reducible refine gate_callee (f := 18) rfl ?_); refine goesT (some 17) Tryd.func18 #[.slice A0 l0.length c0] ?_; (with_reducible refine (csv_Join.calls _ _ l0 t195 t196 _ ?side1 ?side2 ?side3 A4.out).mono ?_); (case side1 => repeat (first | exact (Kd.C_below HR0.out HB.out) | (with_reducible refine Kd.C_alloc ?_ _) | (with_reducible refine Kd.C_drewN ?_ _) | (with_reducible refine Kd.C_drew ?_))); (case side2 => exact HC0.out); (case side3 => first | (with_reducible exact HL_LMax) | exact ⟨LMax.below HL_LMax.out (hbT HB.out)⟩); rintro e w6 ⟨rfl, hb⟩; refine ⟨_, rfl, ?_⟩; replace HB := bsA HB hb; (try clear hb); (try clear hb2); (try clear hk); (try clear hi)))
    go_loopg [6, 7] k (fun kq v6 v7 w' => ∃ (x6_1 : Int) (x7_1 : Int), v6 = .int .i64 x6_1 ∧ v7 = .int .i64 x7_1 ∧ Aside0 (refrainlaw4_CsvThere.l0 kq l0 t195 t196 x6_1 x7_1 = some r) ∧ Aside0 (kq ≤ k) ∧ Aside0 (Below w.heap.size w w'))
    case atStart => exact ⟨(0), (0), (by first | rfl | (simp; done) | (simp [*]; done) | (simp; unfold wrap64; omega) | (congr 1; (try rw [Bool.eq_iff_iff]); simp [List.isEmpty_iff]; done)), (by first | rfl | (simp; done) | (simp [*]; done) | (simp; unfold wrap64; omega) | (congr 1; (try rw [Bool.eq_iff_iff]); simp [List.isEmpty_iff]; done)), H', ⟨Nat.le_refl _⟩, ⟨hbT HB.out⟩⟩
    case round =>
      clear H'
      try clear c1
      try clear p2
      try clear c3
      try clear c5
      obtain ⟨x6_1, x7_1, rfl, rfl, HA, HK1, HB⟩ := hrel
      cases gk with
      | zero => (have HA2 := HA.out; clear HA; revert HA2; rw [refrainlaw4_CsvThere.l0_zero]; intro h_; cases h_)
      | succ k1 =>
        have H := HA.out
        clear HA
        simp only [refrainlaw4_CsvThere.l0] at H
        by_cases c7 : x7_1 < (l0.length : Int)
        · rw [if_pos c7] at H
          have c7b0 : decide (x7_1 < (l0.length : Int)) = true := decide_eq_true c7
          clear c7
          by_cases c8 : 0 ≤ x7_1
          · rw [if_pos c8] at H
            have c8b0 : decide (0 ≤ x7_1) = true := decide_eq_true c8
            clear c8
            by_cases c9 : ((rd_L1 l0 x7_1).length : Int) = 0
            · rw [if_pos c9] at H
              have c9b0 : (((rd_L1 l0 x7_1).length : Int) == 0) = true := beq_iff_eq.mpr c9
              have c9b1 : (((rd_L1 l0 x7_1).length : Int) != 0) = false := bne_eq_false_iff_eq.mpr c9
              clear c9
              by_cases c10 : t196 = 41
              · rw [if_pos c10] at H
                have c10b0 : (t196 == 41) = true := beq_iff_eq.mpr c10
                have c10b1 : (t196 != 41) = false := bne_eq_false_iff_eq.mpr c10
                clear c10
                obtain rfl := Option.some.inj H
                have p197 : 0 ≤ (x7_1 : Int) := of_decide_eq_true (by first | (with_reducible assumption) | assumption)
                have q197 : x7_1 < (l0.length : Int) := of_decide_eq_true (by first | (with_reducible assumption) | assumption)
                obtain ⟨ad197, A197_0, c197_0, e197, hx197_0, hl197_0, hi197_0⟩ := at_L1 HR0.out x7_1 p197 q197
                cases e197
                replace hx197_0 := (HB.out.cell (World.block_lt_of_cell? w _ hx197_0)).trans hx197_0
                have HR197_0 := Aside0.mk hi197_0
                have HC197_0 := Aside0.mk hl197_0
                clear hi197_0 hl197_0
                replace p197 := eq_true p197
                replace q197 := eq_true q197
                go_wp2
                go_ret
                exact ⟨by first | rfl | (simp [errW_none, errW_some] <;> rfl) | (simp [*, errW_none, errW_some] <;> rfl), hbT HB.out⟩
              · rw [if_neg c10] at H
                have c10b0 : (t196 == 41) = false := beq_eq_false_iff_ne.mpr c10
                have c10b1 : (t196 != 41) = true := bne_iff_ne.mpr c10
                obtain rfl := Option.some.inj H
                have p197 : 0 ≤ (x7_1 : Int) := of_decide_eq_true (by first | (with_reducible assumption) | assumption)
                have q197 : x7_1 < (l0.length : Int) := of_decide_eq_true (by first | (with_reducible assumption) | assumption)
                obtain ⟨ad197, A197_0, c197_0, e197, hx197_0, hl197_0, hi197_0⟩ := at_L1 HR0.out x7_1 p197 q197
                cases e197
                replace hx197_0 := (HB.out.cell (World.block_lt_of_cell? w _ hx197_0)).trans hx197_0
                have HR197_0 := Aside0.mk hi197_0
                have HC197_0 := Aside0.mk hl197_0
                clear hi197_0 hl197_0
                replace p197 := eq_true p197
                replace q197 := eq_true q197
                go_wp2
                go_ret
                exact ⟨by first | rfl | (simp [errW_none, errW_some] <;> rfl) | (simp [*, errW_none, errW_some] <;> rfl), hbT HB.out⟩
            · rw [if_neg c9] at H
              have c9b0 : (((rd_L1 l0 x7_1).length : Int) == 0) = false := beq_eq_false_iff_ne.mpr c9
              have c9b1 : (((rd_L1 l0 x7_1).length : Int) != 0) = true := bne_iff_ne.mpr c9
              have c9b2 : ¬ ((rd_L1 l0 x7_1) = []) := fun h_ => c9 (by rw [h_]; rfl)
              have H' := Aside0.mk H
              clear H
              have p197 : 0 ≤ (x7_1 : Int) := of_decide_eq_true (by first | (with_reducible assumption) | assumption)
              have q197 : x7_1 < (l0.length : Int) := of_decide_eq_true (by first | (with_reducible assumption) | assumption)
              obtain ⟨ad197, A197_0, c197_0, e197, hx197_0, hl197_0, hi197_0⟩ := at_L1 HR0.out x7_1 p197 q197
              cases e197
              replace hx197_0 := (HB.out.cell (World.block_lt_of_cell? w _ hx197_0)).trans hx197_0
              have HR197_0 := Aside0.mk hi197_0
              have HC197_0 := Aside0.mk hl197_0
              clear hi197_0 hl197_0
              replace p197 := eq_true p197
              replace q197 := eq_true q197
              go_wp2
              go_loopg [6, 8] k1 (fun kq v6 v8 w' => ∃ (x6_2 : Int) (x8_2 : Int), v6 = .int .i64 x6_2 ∧ v8 = .int .i64 x8_2 ∧ Aside0 (refrainlaw4_CsvThere.l1 kq l0 t195 t196 x6_2 x7_1 x8_2 = some r) ∧ Aside0 (kq ≤ k1) ∧ Aside0 (Below w.heap.size w w'))
              case atStart => exact ⟨(x6_1), (0), (by first | rfl | (simp; done) | (simp [*]; done) | (simp; unfold wrap64; omega) | (congr 1; (try rw [Bool.eq_iff_iff]); simp [List.isEmpty_iff]; done)), (by first | rfl | (simp; done) | (simp [*]; done) | (simp; unfold wrap64; omega) | (congr 1; (try rw [Bool.eq_iff_iff]); simp [List.isEmpty_iff]; done)), H', ⟨Nat.le_refl _⟩, ⟨hbT HB.out⟩⟩
              case round =>
                clear H'
                try clear c1
                try clear p1
                try clear q1
                try clear hx1
                try clear p2
                try clear c3
                try clear c5
                try clear c7
                try clear c7b0
                try clear c8
                try clear c8b0
                try clear c9
                try clear c9b0
                try clear c9b1
                try clear c9b2
                try clear c10
                try clear c10b0
                try clear c10b1
                try clear hx197_0
                try clear p197
                try clear p2
                try clear q197
                obtain ⟨x6_2, x8_2, rfl, rfl, HA, HK2, HB⟩ := hrel
                cases gk with
                | zero => (have HA2 := HA.out; clear HA; revert HA2; rw [refrainlaw4_CsvThere.l1_zero]; intro h_; cases h_)
                | succ k2 =>
                  have H := HA.out
                  clear HA
                  simp only [refrainlaw4_CsvThere.l1] at H
                  by_cases c11 : 0 ≤ x7_1
                  · rw [if_pos c11] at H
                    have c11b0 : decide (0 ≤ x7_1) = true := decide_eq_true c11
                    clear c11
                    by_cases c12 : x7_1 < (l0.length : Int)
                    · rw [if_pos c12] at H
                      have c12b0 : decide (x7_1 < (l0.length : Int)) = true := decide_eq_true c12
                      clear c12
                      by_cases c13 : x8_2 < ((rd_L1 l0 x7_1).length : Int)
                      · rw [if_pos c13] at H
                        have c13b0 : decide (x8_2 < ((rd_L1 l0 x7_1).length : Int)) = true := decide_eq_true c13
                        clear c13
                        by_cases c14 : 0 ≤ x8_2
                        · rw [if_pos c14] at H
                          have c14b0 : decide (0 ≤ x8_2) = true := decide_eq_true c14
                          clear c14
                          have H' := Aside0.mk H
                          clear H
                          have p198 : 0 ≤ (x7_1 : Int) := of_decide_eq_true (by first | (with_reducible assumption) | assumption)
                          have q198 : x7_1 < (l0.length : Int) := of_decide_eq_true (by first | (with_reducible assumption) | assumption)
                          obtain ⟨ad198, A198_0, c198_0, e198, hx198_0, hl198_0, hi198_0⟩ := at_L1 HR0.out x7_1 p198 q198
                          obtain rfl : ad197 = ad198 := (by injection e198)
                          replace hx198_0 := (HB.out.cell (World.block_lt_of_cell? w _ hx198_0)).trans hx198_0
                          have HR198_0 := Aside0.mk hi198_0
                          have HC198_0 := Aside0.mk hl198_0
                          clear hi198_0 hl198_0
                          replace p198 := eq_true p198
                          replace q198 := eq_true q198
                          have p199 : 0 ≤ (x7_1 : Int) := of_decide_eq_true (by first | (with_reducible assumption) | assumption)
                          have q199 : x7_1 < (l0.length : Int) := of_decide_eq_true (by first | (with_reducible assumption) | assumption)
                          obtain ⟨ad199, A199_0, c199_0, e199, hx199_0, hl199_0, hi199_0⟩ := at_L1 HR0.out x7_1 p199 q199
                          obtain rfl : ad197 = ad199 := (by injection e199)
                          replace hx199_0 := (HB.out.cell (World.block_lt_of_cell? w _ hx199_0)).trans hx199_0
                          have HR199_0 := Aside0.mk hi199_0
                          have HC199_0 := Aside0.mk hl199_0
                          clear hi199_0 hl199_0
                          replace p199 := eq_true p199
                          replace q199 := eq_true q199
                          have ea_ := Option.some.inj (hx198_0.symm.trans hx199_0)
                          injection ea_ with ea_ en_ ec_
                          subst ea_
                          subst ec_
                          clear en_
                          have p200 : 0 ≤ (x8_2 : Int) := of_decide_eq_true (by first | (with_reducible assumption) | assumption)
                          have q200 : x8_2 < ((rd_L1 l0 x7_1).length : Int) := of_decide_eq_true (by first | (with_reducible assumption) | assumption)
                          obtain ⟨ad200, e200, hx200_0⟩ := Kd.at_string HR199_0.out x8_2 p200 q200
                          cases e200
                          replace hx200_0 := (HB.out.cell (World.block_lt_of_cell? w _ hx200_0)).trans hx200_0
                          replace p200 := eq_true p200
                          replace q200 := eq_true q200
                          go_wp2
                          go_roundg k2
                          case measure => have := HK1.out; have := HK2.out; omega
                          case rel => exact ⟨(wrap64 ((wrap64 (x6_2 + (wrap64 (2 * ((rdOf ByteArray.empty (rd_L1 l0 x7_1) x8_2).size : Int))))) + 4)), (wrap64 (x8_2 + 1)), (by first | rfl | (simp; done) | (simp [*]; done) | (simp; unfold wrap64; omega) | (congr 1; (try rw [Bool.eq_iff_iff]); simp [List.isEmpty_iff]; done)), (by first | rfl | (simp; done) | (simp [*]; done) | (simp; unfold wrap64; omega) | (congr 1; (try rw [Bool.eq_iff_iff]); simp [List.isEmpty_iff]; done)), H', ⟨by have := HK1.out; have := HK2.out; omega⟩, ⟨hbT HB.out⟩⟩
                        · rw [if_neg c14] at H
                          exact absurd H (by simp)
                      · rw [if_neg c13] at H
                        have c13b0 : decide (x8_2 < ((rd_L1 l0 x7_1).length : Int)) = false := decide_eq_false c13
                        clear c13
                        have H' := Aside0.mk H
                        clear H
                        have p198 : 0 ≤ (x7_1 : Int) := of_decide_eq_true (by first | (with_reducible assumption) | assumption)
                        have q198 : x7_1 < (l0.length : Int) := of_decide_eq_true (by first | (with_reducible assumption) | assumption)
                        obtain ⟨ad198, A198_0, c198_0, e198, hx198_0, hl198_0, hi198_0⟩ := at_L1 HR0.out x7_1 p198 q198
                        obtain rfl : ad197 = ad198 := (by injection e198)
                        replace hx198_0 := (HB.out.cell (World.block_lt_of_cell? w _ hx198_0)).trans hx198_0
                        have HR198_0 := Aside0.mk hi198_0
                        have HC198_0 := Aside0.mk hl198_0
                        clear hi198_0 hl198_0
                        replace p198 := eq_true p198
                        replace q198 := eq_true q198
                        go_wp2
                        go_roundg k2
                        case measure => have := HK1.out; have := HK2.out; omega
                        case rel => exact ⟨(x6_2), (wrap64 (x7_1 + 1)), (by first | rfl | (simp; done) | (simp [*]; done) | (simp; unfold wrap64; omega) | (congr 1; (try rw [Bool.eq_iff_iff]); simp [List.isEmpty_iff]; done)), (by first | rfl | (simp; done) | (simp [*]; done) | (simp; unfold wrap64; omega) | (congr 1; (try rw [Bool.eq_iff_iff]); simp [List.isEmpty_iff]; done)), H', ⟨by have := HK1.out; have := HK2.out; omega⟩, ⟨hbT HB.out⟩⟩
                    · rw [if_neg c12] at H
                      exact absurd H (by simp)
                  · rw [if_neg c11] at H
                    exact absurd H (by simp)
          · rw [if_neg c8] at H
            exact absurd H (by simp)
        · rw [if_neg c7] at H
          have c7b0 : decide (x7_1 < (l0.length : Int)) = false := decide_eq_false c7
          clear c7
          by_cases c15 : t196 = 0
          · rw [if_pos c15] at H
            have c15b0 : (t196 == 0) = true := beq_iff_eq.mpr c15
            have c15b1 : (t196 != 0) = false := bne_eq_false_iff_eq.mpr c15
            clear c15
            replace H := Option.bind_eq_some_iff.mp H
            obtain ⟨⟨t201, t202, t203⟩, A160, H⟩ := H
            replace H : (if t203 = 0 then (if t202 = 0 then (if (t195.size : Int) ≤ 65536 then ((refrainlaw4_same.f k1 t201 l0).bind fun t206 => (some t206)) else (some false)) else (some false)) else (some false)) = some r := H
            have A16 := Aside0.mk A160
            clear A160
            by_cases c17 : t203 = 0
            · rw [if_pos c17] at H
              have c17b0 : (t203 == 0) = true := beq_iff_eq.mpr c17
              have c17b1 : (t203 != 0) = false := bne_eq_false_iff_eq.mpr c17
              clear c17
              by_cases c18 : t202 = 0
              · rw [if_pos c18] at H
                have c18b0 : (t202 == 0) = true := beq_iff_eq.mpr c18
                have c18b1 : (t202 != 0) = false := bne_eq_false_iff_eq.mpr c18
                clear c18
                by_cases c19 : (t195.size : Int) ≤ 65536
                · rw [if_pos c19] at H
                  have c19b0 : decide ((t195.size : Int) ≤ 65536) = true := decide_eq_true c19
                  have c19b1 : decide (t195.size ≤ 65536) = true := decide_eq_true (by omega)
                  clear c19
                  replace H := Option.bind_eq_some_iff.mp H
                  obtain ⟨t206, A200, H⟩ := H
                  replace H : (some t206) = some r := H
                  have A20 := Aside0.mk A200
                  clear A200
                  obtain rfl := Option.some.inj H
                  go_wp2_with (first | ((with_reducible refine gate_callee (f := 14) rfl ?_); refine goesT (some 73) Tryd.func14 #[.string t195] ?_; (with_reducible refine (csv_Split.calls t195 t201 t202 t203 _ A16.out).mono ?_); rintro e w21 ⟨v204, rfl, ho0, hb⟩; refine ⟨_, rfl, ?_⟩; have HO205 := Aside0.mk (Kd.S_lower ho0 (below_size (hbT HB.out))); replace HB := bsA HB hb; (try clear hb); (try clear hb2); (try clear hk); (try clear hi); (try clear ho0); obtain ⟨Ao22, co22, eo22⟩ := Kd.S_slice HO205.out; subst eo22) | (go_at_call 16; (with_reducible refine (refrainlaw4_same.calls k1 _ _ t201 _ _ l0 t206 _ ?side1 ?side2 ?side3 ?side4 A20.out).mono ?_); (case side1 => repeat (first | exact (Kd.S_reads' HO205.out).2.2 | (with_reducible refine Kd.C_alloc ?_ _) | (with_reducible refine Kd.C_drewN ?_ _) | (with_reducible refine Kd.C_drew ?_))); (case side2 => exact (Kd.S_reads' HO205.out).2.1); (case side3 => repeat (first | exact (Kd.C_below HR0.out HB.out) | (with_reducible refine Kd.C_alloc ?_ _) | (with_reducible refine Kd.C_drewN ?_ _) | (with_reducible refine Kd.C_drew ?_))); (case side4 => exact HC0.out); rintro e w' ⟨rfl, ⟨nd, rfl⟩⟩))
                  go_ret
                  exact ⟨by first | rfl | (simp [errW_none, errW_some] <;> rfl) | (simp [*, errW_none, errW_some] <;> rfl), hbT HB.out⟩
                · rw [if_neg c19] at H
                  have c19b0 : decide ((t195.size : Int) ≤ 65536) = false := decide_eq_false c19
                  have c19b1 : decide (t195.size ≤ 65536) = false := decide_eq_false (by omega)
                  clear c19
                  obtain rfl := Option.some.inj H
                  go_wp2_with (first | ((with_reducible refine gate_callee (f := 14) rfl ?_); refine goesT (some 73) Tryd.func14 #[.string t195] ?_; (with_reducible refine (csv_Split.calls t195 t201 t202 t203 _ A16.out).mono ?_); rintro e w23 ⟨v204, rfl, ho0, hb⟩; refine ⟨_, rfl, ?_⟩; have HO205 := Aside0.mk (Kd.S_lower ho0 (below_size (hbT HB.out))); replace HB := bsA HB hb; (try clear hb); (try clear hb2); (try clear hk); (try clear hi); (try clear ho0)))
                  go_ret
                  exact ⟨by first | rfl | (simp [errW_none, errW_some] <;> rfl) | (simp [*, errW_none, errW_some] <;> rfl), hbT HB.out⟩
              · rw [if_neg c18] at H
                have c18b0 : (t202 == 0) = false := beq_eq_false_iff_ne.mpr c18
                have c18b1 : (t202 != 0) = true := bne_iff_ne.mpr c18
                obtain rfl := Option.some.inj H
                go_wp2_with (first | ((with_reducible refine gate_callee (f := 14) rfl ?_); refine goesT (some 73) Tryd.func14 #[.string t195] ?_; (with_reducible refine (csv_Split.calls t195 t201 t202 t203 _ A16.out).mono ?_); rintro e w24 ⟨v204, rfl, ho0, hb⟩; refine ⟨_, rfl, ?_⟩; have HO205 := Aside0.mk (Kd.S_lower ho0 (below_size (hbT HB.out))); replace HB := bsA HB hb; (try clear hb); (try clear hb2); (try clear hk); (try clear hi); (try clear ho0)))
                go_ret
                exact ⟨by first | rfl | (simp [errW_none, errW_some] <;> rfl) | (simp [*, errW_none, errW_some] <;> rfl), hbT HB.out⟩
            · rw [if_neg c17] at H
              have c17b0 : (t203 == 0) = false := beq_eq_false_iff_ne.mpr c17
              have c17b1 : (t203 != 0) = true := bne_iff_ne.mpr c17
              obtain rfl := Option.some.inj H
              go_wp2_with (first | ((with_reducible refine gate_callee (f := 14) rfl ?_); refine goesT (some 73) Tryd.func14 #[.string t195] ?_; (with_reducible refine (csv_Split.calls t195 t201 t202 t203 _ A16.out).mono ?_); rintro e w25 ⟨v204, rfl, ho0, hb⟩; refine ⟨_, rfl, ?_⟩; have HO205 := Aside0.mk (Kd.S_lower ho0 (below_size (hbT HB.out))); replace HB := bsA HB hb; (try clear hb); (try clear hb2); (try clear hk); (try clear hi); (try clear ho0)))
              go_ret
              exact ⟨by first | rfl | (simp [errW_none, errW_some] <;> rfl) | (simp [*, errW_none, errW_some] <;> rfl), hbT HB.out⟩
          · rw [if_neg c15] at H
            have c15b0 : (t196 == 0) = false := beq_eq_false_iff_ne.mpr c15
            have c15b1 : (t196 != 0) = true := bne_iff_ne.mpr c15
            by_cases c26 : t196 = 2
            · rw [if_pos c26] at H
              have c26b0 : (t196 == 2) = true := beq_iff_eq.mpr c26
              have c26b1 : (t196 != 2) = false := bne_eq_false_iff_eq.mpr c26
              clear c26
              by_cases c27 : t195.toList = ([] : List UInt8)
              · rw [if_pos c27] at H
                have c27b0 : (t195.toList == ([] : List UInt8)) = true := beq_iff_eq.mpr c27
                have c27b1 : (t195.toList != ([] : List UInt8)) = false := bne_eq_false_iff_eq.mpr c27
                clear c27
                obtain rfl := Option.some.inj H
                go_wp2
                go_ret
                exact ⟨by first | rfl | (simp [errW_none, errW_some] <;> rfl) | (simp [*, errW_none, errW_some] <;> rfl), hbT HB.out⟩
              · rw [if_neg c27] at H
                have c27b0 : (t195.toList == ([] : List UInt8)) = false := beq_eq_false_iff_ne.mpr c27
                have c27b1 : (t195.toList != ([] : List UInt8)) = true := bne_iff_ne.mpr c27
                obtain rfl := Option.some.inj H
                go_wp2
                go_ret
                exact ⟨by first | rfl | (simp [errW_none, errW_some] <;> rfl) | (simp [*, errW_none, errW_some] <;> rfl), hbT HB.out⟩
            · rw [if_neg c26] at H
              have c26b0 : (t196 == 2) = false := beq_eq_false_iff_ne.mpr c26
              have c26b1 : (t196 != 2) = true := bne_iff_ne.mpr c26
              obtain rfl := Option.some.inj H
              go_wp2
              go_ret
              exact ⟨by first | rfl | (simp [errW_none, errW_some] <;> rfl) | (simp [*, errW_none, errW_some] <;> rfl), hbT HB.out⟩
  · replace c3 := Bool.eq_false_iff.mpr c3
    subst c3
    have H1 : (some false) = some r := by rw [if_neg (show ¬ (false = true) by decide)] at H; exact H
    clear H
    have H := H1
    clear H1
    obtain rfl := Option.some.inj H
    go_enter Tryd.func5, Tryd.ntmps5
    go_wp2_with (first | ((with_reducible refine gate_callee (f := 13) rfl ?_); refine goesT (some 12) Tryd.func13 #[] ?_; (with_reducible refine (refrainlaw4_begun.calls  false _ ?side1 A2.out).mono ?_); (case side1 => first | (with_reducible exact HL_LMax) | exact ⟨LMax.below HL_LMax.out (hbT HB.out)⟩); rintro e w28 ⟨rfl, hb⟩; refine ⟨_, rfl, ?_⟩; replace HB := bsA HB hb; (try clear hb); (try clear hb2); (try clear hk); (try clear hi)))
    go_ret
    exact ⟨by first | rfl | (simp [errW_none, errW_some] <;> rfl) | (simp [*, errW_none, errW_some] <;> rfl), hbT HB.out⟩

/-! ### refrainlaw4_CsvAgain: function 6 -/
mutual
def refrainlaw4_CsvAgain.l0 : Nat → ByteArray → List (List ByteArray) → Int → Option (Bool)
  | 0, _, _, _ => none
  | k + 1, x1, x6, x9 => if x9 < (x6.length : Int) then (if 0 ≤ x9 then (if ((rd_L1 x6 x9).length : Int) = 0 then (some false) else (refrainlaw4_CsvAgain.l0 k x1 x6 (wrap64 (x9 + 1)))) else (none)) else ((csv_Join.f x6).bind fun bt214 => (if bt214.2 = 0 then ((csv_Split.f bt214.1).bind fun bt216 => (if bt216.2.2 = 0 then ((refrainlaw4_same.f k x6 bt216.1).bind fun t221 => (refrainlaw4_CsvAgain.j1 k x1 x6 bt214.1 (!t221))) else (refrainlaw4_CsvAgain.j1 k x1 x6 bt214.1 true))) else (some (bt214.2 == 2))))
def refrainlaw4_CsvAgain.j1 : Nat → ByteArray → List (List ByteArray) → ByteArray → Bool → Option (Bool)
  | 0, _, _, _, _ => none
  | k + 1, x1, x6, x10, x93 => if x93 = true then (some false) else (if x10.size + x1.size ≤ 9223372036854775807 then ((csv_Split.f (x10 ++ x1)).bind fun bt222 => ((csv_Split.f x1).bind fun bt227 => (if bt222.2.2 = 0 then (refrainlaw4_CsvAgain.j2 k x6 bt222.1 bt227.1 (bt227.2.2 != 0)) else (refrainlaw4_CsvAgain.j2 k x6 bt222.1 bt227.1 true)))) else (none))
def refrainlaw4_CsvAgain.j2 : Nat → List (List ByteArray) → List (List ByteArray) → List (List ByteArray) → Bool → Option (Bool)
  | 0, _, _, _, _ => none
  | k + 1, x6, x15, x18, x113 => if x113 = true then (some true) else (if (x15.length : Int) = (wrap64 ((x6.length : Int) + (x18.length : Int))) then (if 0 ≤ (x6.length : Int) then (if (x6.length : Int) ≤ (x15.length : Int) then ((refrainlaw4_same.f k (x15.take ((x6.length : Int) : Int).toNat) x6).bind fun t236 => (if t236 = true then ((refrainlaw4_same.f k (x15.drop ((x6.length : Int) : Int).toNat) x18).bind fun t241 => (some t241)) else (some false))) else (none)) else (none)) else (some false))
end
def refrainlaw4_CsvAgain.f (k : Nat) (a0 : ByteArray) (a1 : ByteArray) : Option (Bool) := (refrainlaw4_begun.f).bind fun t207 => (if t207 = true then ((csv_Split.f a0).bind fun bt208 => (if bt208.2.2 = 0 then (if bt208.2.1 = 0 then (refrainlaw4_CsvAgain.l0 k a1 bt208.1 0) else (some false)) else (if (bt208.1.length : Int) = 0 then (if bt208.2.2 = 2 then (if bt208.2.1 = 0 then (some true) else (some false)) else (if bt208.2.1 < 0 then (some false) else (if bt208.2.1 ≥ (a0.size : Int) then (some false) else (some true)))) else (some false)))) else (some false))
set_option maxRecDepth 100000 in
theorem refrainlaw4_CsvAgain.l0_zero : ∀ y0 y1 y2, refrainlaw4_CsvAgain.l0 0 y0 y1 y2 = none := fun _ _ _ => rfl
set_option maxRecDepth 100000 in
theorem refrainlaw4_CsvAgain.j1_zero : ∀ y0 y1 y2 y3, refrainlaw4_CsvAgain.j1 0 y0 y1 y2 y3 = none := fun _ _ _ _ => rfl
set_option maxRecDepth 100000 in
theorem refrainlaw4_CsvAgain.j2_zero : ∀ y0 y1 y2 y3, refrainlaw4_CsvAgain.j2 0 y0 y1 y2 y3 = none := fun _ _ _ _ => rfl
set_option maxRecDepth 100000 in
theorem refrainlaw4_CsvAgain.mono_l : ∀ k, (∀ y0 y1 y2, LeO (refrainlaw4_CsvAgain.l0 k y0 y1 y2) (refrainlaw4_CsvAgain.l0 (k + 1) y0 y1 y2)) ∧ (∀ y0 y1 y2 y3, LeO (refrainlaw4_CsvAgain.j1 k y0 y1 y2 y3) (refrainlaw4_CsvAgain.j1 (k + 1) y0 y1 y2 y3)) ∧ (∀ y0 y1 y2 y3, LeO (refrainlaw4_CsvAgain.j2 k y0 y1 y2 y3) (refrainlaw4_CsvAgain.j2 (k + 1) y0 y1 y2 y3))
  | 0 => ⟨fun _ _ _ r h => by (unfold refrainlaw4_CsvAgain.l0 at h; cases h), fun _ _ _ _ r h => by (unfold refrainlaw4_CsvAgain.j1 at h; cases h), fun _ _ _ _ r h => by (unfold refrainlaw4_CsvAgain.j2 at h; cases h)⟩
  | k + 1 => by
    obtain ⟨ih0, ih1, ih2⟩ := refrainlaw4_CsvAgain.mono_l k
    refine ⟨?_, ?_, ?_⟩
    · intro y0 y1 y2
      unfold refrainlaw4_CsvAgain.l0
      repeat' first
      | (with_reducible exact ih0 _ _ _)
      | (with_reducible exact ih1 _ _ _ _)
      | (with_reducible exact ih2 _ _ _ _)
      | (with_reducible exact refrainlaw4_same.mono _ _ _)
      | (with_reducible exact LeO.refl _)
      | (with_reducible exact LeO.none _)
      | (with_reducible refine LeO.ite ?_ ?_)
      | (with_reducible refine LeO.bind ?_ (fun _ => ?_))
      | exact ih0 _ _ _
      | exact ih1 _ _ _ _
      | exact ih2 _ _ _ _
      | exact refrainlaw4_same.mono _ _ _
      | exact LeO.none _
      | refine LeO.ite ?_ ?_
      | refine LeO.bind ?_ (fun _ => ?_)
    · intro y0 y1 y2 y3
      unfold refrainlaw4_CsvAgain.j1
      repeat' first
      | (with_reducible exact ih0 _ _ _)
      | (with_reducible exact ih1 _ _ _ _)
      | (with_reducible exact ih2 _ _ _ _)
      | (with_reducible exact refrainlaw4_same.mono _ _ _)
      | (with_reducible exact LeO.refl _)
      | (with_reducible exact LeO.none _)
      | (with_reducible refine LeO.ite ?_ ?_)
      | (with_reducible refine LeO.bind ?_ (fun _ => ?_))
      | exact ih0 _ _ _
      | exact ih1 _ _ _ _
      | exact ih2 _ _ _ _
      | exact refrainlaw4_same.mono _ _ _
      | exact LeO.none _
      | refine LeO.ite ?_ ?_
      | refine LeO.bind ?_ (fun _ => ?_)
    · intro y0 y1 y2 y3
      unfold refrainlaw4_CsvAgain.j2
      repeat' first
      | (with_reducible exact ih0 _ _ _)
      | (with_reducible exact ih1 _ _ _ _)
      | (with_reducible exact ih2 _ _ _ _)
      | (with_reducible exact refrainlaw4_same.mono _ _ _)
      | (with_reducible exact LeO.refl _)
      | (with_reducible exact LeO.none _)
      | (with_reducible refine LeO.ite ?_ ?_)
      | (with_reducible refine LeO.bind ?_ (fun _ => ?_))
      | exact ih0 _ _ _
      | exact ih1 _ _ _ _
      | exact ih2 _ _ _ _
      | exact refrainlaw4_same.mono _ _ _
      | exact LeO.none _
      | refine LeO.ite ?_ ?_
      | refine LeO.bind ?_ (fun _ => ?_)
set_option maxRecDepth 100000 in
theorem refrainlaw4_CsvAgain.mono : ∀ a0 a1 k, LeO (refrainlaw4_CsvAgain.f k a0 a1) (refrainlaw4_CsvAgain.f (k + 1) a0 a1) := by
  intro a0 a1 k
  obtain ⟨ih0, ih1, ih2⟩ := refrainlaw4_CsvAgain.mono_l k
  unfold refrainlaw4_CsvAgain.f
  repeat' first
      | (with_reducible exact ih0 _ _ _)
      | (with_reducible exact ih1 _ _ _ _)
      | (with_reducible exact ih2 _ _ _ _)
      | (with_reducible exact refrainlaw4_same.mono _ _ _)
      | (with_reducible exact LeO.refl _)
      | (with_reducible exact LeO.none _)
      | (with_reducible refine LeO.ite ?_ ?_)
      | (with_reducible refine LeO.bind ?_ (fun _ => ?_))
      | exact ih0 _ _ _
      | exact ih1 _ _ _ _
      | exact ih2 _ _ _ _
      | exact refrainlaw4_same.mono _ _ _
      | exact LeO.none _
      | refine LeO.ite ?_ ?_
      | refine LeO.bind ?_ (fun _ => ?_)
set_option maxHeartbeats 8000000 in
set_option maxRecDepth 100000 in
theorem refrainlaw4_CsvAgain.calls (k : Nat) (a0 : ByteArray) (a1 : ByteArray) (r : Bool) (w : World) (HL_LMax : Aside0 (LMax w)) (h : refrainlaw4_CsvAgain.f k a0 a1 = some r) :
    Calls Tryd.prog 6 #[.string a0, .string a1] w fun e w' => e = .returned (.bool r) ∧ Below w.heap.size w w' := by
  have HB := Aside0.mk (Below.refl w.heap.size w)
  have H : ((refrainlaw4_begun.f).bind fun t207 => (if t207 = true then ((csv_Split.f a0).bind fun bt208 => (if bt208.2.2 = 0 then (if bt208.2.1 = 0 then (refrainlaw4_CsvAgain.l0 k a1 bt208.1 0) else (some false)) else (if (bt208.1.length : Int) = 0 then (if bt208.2.2 = 2 then (if bt208.2.1 = 0 then (some true) else (some false)) else (if bt208.2.1 < 0 then (some false) else (if bt208.2.1 ≥ (a0.size : Int) then (some false) else (some true)))) else (some false)))) else (some false))) = some r := h
  clear h
  replace H := Option.bind_eq_some_iff.mp H
  obtain ⟨t207, A30, H⟩ := H
  replace H : (if t207 = true then ((csv_Split.f a0).bind fun bt208 => (if bt208.2.2 = 0 then (if bt208.2.1 = 0 then (refrainlaw4_CsvAgain.l0 k a1 bt208.1 0) else (some false)) else (if (bt208.1.length : Int) = 0 then (if bt208.2.2 = 2 then (if bt208.2.1 = 0 then (some true) else (some false)) else (if bt208.2.1 < 0 then (some false) else (if bt208.2.1 ≥ (a0.size : Int) then (some false) else (some true)))) else (some false)))) else (some false)) = some r := H
  have A3 := Aside0.mk A30
  clear A30
  by_cases c4 : t207 = true
  · subst c4
    have H1 : ((csv_Split.f a0).bind fun bt208 => (if bt208.2.2 = 0 then (if bt208.2.1 = 0 then (refrainlaw4_CsvAgain.l0 k a1 bt208.1 0) else (some false)) else (if (bt208.1.length : Int) = 0 then (if bt208.2.2 = 2 then (if bt208.2.1 = 0 then (some true) else (some false)) else (if bt208.2.1 < 0 then (some false) else (if bt208.2.1 ≥ (a0.size : Int) then (some false) else (some true)))) else (some false)))) = some r := by rw [if_pos rfl] at H; exact H
    clear H
    have H := H1
    clear H1
    replace H := Option.bind_eq_some_iff.mp H
    obtain ⟨⟨t208, t209, t210⟩, A50, H⟩ := H
    replace H : (if t210 = 0 then (if t209 = 0 then (refrainlaw4_CsvAgain.l0 k a1 t208 0) else (some false)) else (if (t208.length : Int) = 0 then (if t210 = 2 then (if t209 = 0 then (some true) else (some false)) else (if t209 < 0 then (some false) else (if t209 ≥ (a0.size : Int) then (some false) else (some true)))) else (some false))) = some r := H
    have A5 := Aside0.mk A50
    clear A50
    by_cases c6 : t210 = 0
    · rw [if_pos c6] at H
      have c6b0 : (t210 == 0) = true := beq_iff_eq.mpr c6
      have c6b1 : (t210 != 0) = false := bne_eq_false_iff_eq.mpr c6
      clear c6
      by_cases c7 : t209 = 0
      · rw [if_pos c7] at H
        have c7b0 : (t209 == 0) = true := beq_iff_eq.mpr c7
        have c7b1 : (t209 != 0) = false := bne_eq_false_iff_eq.mpr c7
        clear c7
        have H' := Aside0.mk H
        clear H
        go_enter Tryd.func6, Tryd.ntmps6
        go_wp2_with (first | ((with_reducible refine gate_callee (f := 13) rfl ?_); refine goesT (some 21) Tryd.func13 #[] ?_; (with_reducible refine (refrainlaw4_begun.calls  true _ ?side1 A3.out).mono ?_); (case side1 => first | (with_reducible exact HL_LMax) | exact ⟨LMax.below HL_LMax.out (hbT HB.out)⟩); rintro e w8 ⟨rfl, hb⟩; refine ⟨_, rfl, ?_⟩; replace HB := bsA HB hb; (try clear hb); (try clear hb2); (try clear hk); (try clear hi)) | ((with_reducible refine gate_callee (f := 14) rfl ?_); refine goesT (some 26) Tryd.func14 #[.string a0] ?_; (with_reducible refine (csv_Split.calls a0 t208 t209 t210 _ A5.out).mono ?_); rintro e w9 ⟨v211, rfl, ho0, hb⟩; refine ⟨_, rfl, ?_⟩; have HO212 := Aside0.mk (Kd.S_lower ho0 (below_size (hbT HB.out))); replace HB := bsA HB hb; (try clear hb); (try clear hb2); (try clear hk); (try clear hi); (try clear ho0)))
        go_loopg [9] k (fun kq v9 w' => ∃ (x9_1 : Int), v9 = .int .i64 x9_1 ∧ Aside0 (refrainlaw4_CsvAgain.l0 kq a1 t208 x9_1 = some r) ∧ Aside0 (kq ≤ k) ∧ Aside0 (Kd.S (Kd.slice 9 Kd.string) 22 w' w.heap.size (fun _ => True) v211 t208) ∧ Aside0 (Below w.heap.size w w'))
        case atStart => exact ⟨(0), (by first | rfl | (simp; done) | (simp [*]; done) | (simp; unfold wrap64; omega) | (congr 1; (try rw [Bool.eq_iff_iff]); simp [List.isEmpty_iff]; done)), H', ⟨Nat.le_refl _⟩, ⟨by (with_reducible repeat (first | apply Kd.S_alloc | apply Kd.S_drewN | apply Kd.S_drew)); exact HO212.out⟩, ⟨hbT HB.out⟩⟩
        case round =>
          clear H'
          try clear c1
          try clear p2
          try clear c4
          try clear c6
          try clear c6b0
          try clear c6b1
          try clear c7
          try clear c7b0
          try clear c7b1
          obtain ⟨x9_1, rfl, HA, HK1, HO_6, HB⟩ := hrel
          cases gk with
          | zero => (have HA2 := HA.out; clear HA; revert HA2; rw [refrainlaw4_CsvAgain.l0_zero]; intro h_; cases h_)
          | succ k1 =>
            have H := HA.out
            clear HA
            simp only [refrainlaw4_CsvAgain.l0] at H
            by_cases c10 : x9_1 < (t208.length : Int)
            · rw [if_pos c10] at H
              have c10b0 : decide (x9_1 < (t208.length : Int)) = true := decide_eq_true c10
              clear c10
              by_cases c11 : 0 ≤ x9_1
              · rw [if_pos c11] at H
                have c11b0 : decide (0 ≤ x9_1) = true := decide_eq_true c11
                clear c11
                by_cases c12 : ((rd_L1 t208 x9_1).length : Int) = 0
                · rw [if_pos c12] at H
                  have c12b0 : (((rd_L1 t208 x9_1).length : Int) == 0) = true := beq_iff_eq.mpr c12
                  have c12b1 : (((rd_L1 t208 x9_1).length : Int) != 0) = false := bne_eq_false_iff_eq.mpr c12
                  clear c12
                  obtain rfl := Option.some.inj H
                  obtain ⟨Ao13, co13, eo13⟩ := Kd.S_slice HO_6.out
                  subst eo13
                  have p213 : 0 ≤ (x9_1 : Int) := of_decide_eq_true (by first | (with_reducible assumption) | assumption)
                  have q213 : x9_1 < (t208.length : Int) := of_decide_eq_true (by first | (with_reducible assumption) | assumption)
                  obtain ⟨ad213, A213_0, c213_0, e213, hx213_0, hl213_0, hi213_0⟩ := at_L1 (Kd.S_reads' HO_6.out).2.2 x9_1 p213 q213
                  cases e213
                  obtain ⟨ce213, hce213, hMe213, hcc213⟩ := Kd.S_get HO_6.out [] x9_1 p213 (by first | exact q213 | exact of_decide_eq_true (by first | (with_reducible assumption) | assumption) | (have e_ := (Kd.S_reads' HO_6.out).1; omega))
                  obtain ⟨ve213_0, rfl, ge213_0⟩ := hMe213
                  have hv213_0 := hcc213 0 _ rfl
                  rw [Nat.add_zero, show ((Kd.slice 9 Kd.string)).sz = 1 from rfl, Nat.mul_one] at hv213_0
                  replace hv213_0 := Option.some.inj (hv213_0.symm.trans hx213_0)
                  rw [hv213_0] at ge213_0
                  have HL213_0 := Aside0.mk (show Kd.R Kd.string 9 _ _ _ _ (rd_L1 t208 x9_1) from ge213_0)
                  clear hv213_0 ge213_0
                  clear hcc213 hce213
                  have HR213_0 := Aside0.mk hi213_0
                  have HC213_0 := Aside0.mk hl213_0
                  clear hi213_0 hl213_0
                  replace p213 := eq_true p213
                  replace q213 := eq_true q213
                  go_wp2
                  go_ret
                  exact ⟨by first | rfl | (simp [errW_none, errW_some] <;> rfl) | (simp [*, errW_none, errW_some] <;> rfl), hbT HB.out⟩
                · rw [if_neg c12] at H
                  have c12b0 : (((rd_L1 t208 x9_1).length : Int) == 0) = false := beq_eq_false_iff_ne.mpr c12
                  have c12b1 : (((rd_L1 t208 x9_1).length : Int) != 0) = true := bne_iff_ne.mpr c12
                  have c12b2 : ¬ ((rd_L1 t208 x9_1) = []) := fun h_ => c12 (by rw [h_]; rfl)
                  have H' := Aside0.mk H
                  clear H
                  obtain ⟨Ao14, co14, eo14⟩ := Kd.S_slice HO_6.out
                  subst eo14
                  have p213 : 0 ≤ (x9_1 : Int) := of_decide_eq_true (by first | (with_reducible assumption) | assumption)
                  have q213 : x9_1 < (t208.length : Int) := of_decide_eq_true (by first | (with_reducible assumption) | assumption)
                  obtain ⟨ad213, A213_0, c213_0, e213, hx213_0, hl213_0, hi213_0⟩ := at_L1 (Kd.S_reads' HO_6.out).2.2 x9_1 p213 q213
                  cases e213
                  obtain ⟨ce213, hce213, hMe213, hcc213⟩ := Kd.S_get HO_6.out [] x9_1 p213 (by first | exact q213 | exact of_decide_eq_true (by first | (with_reducible assumption) | assumption) | (have e_ := (Kd.S_reads' HO_6.out).1; omega))
                  obtain ⟨ve213_0, rfl, ge213_0⟩ := hMe213
                  have hv213_0 := hcc213 0 _ rfl
                  rw [Nat.add_zero, show ((Kd.slice 9 Kd.string)).sz = 1 from rfl, Nat.mul_one] at hv213_0
                  replace hv213_0 := Option.some.inj (hv213_0.symm.trans hx213_0)
                  rw [hv213_0] at ge213_0
                  have HL213_0 := Aside0.mk (show Kd.R Kd.string 9 _ _ _ _ (rd_L1 t208 x9_1) from ge213_0)
                  clear hv213_0 ge213_0
                  clear hcc213 hce213
                  have HR213_0 := Aside0.mk hi213_0
                  have HC213_0 := Aside0.mk hl213_0
                  clear hi213_0 hl213_0
                  replace p213 := eq_true p213
                  replace q213 := eq_true q213
                  go_wp2
                  go_roundg k1
                  case measure => have := HK1.out; omega
                  case rel => exact ⟨(wrap64 (x9_1 + 1)), (by first | rfl | (simp; done) | (simp [*]; done) | (simp; unfold wrap64; omega) | (congr 1; (try rw [Bool.eq_iff_iff]); simp [List.isEmpty_iff]; done)), H', ⟨by have := HK1.out; omega⟩, ⟨by (with_reducible repeat (first | apply Kd.S_alloc | apply Kd.S_drewN | apply Kd.S_drew)); exact HO_6.out⟩, ⟨hbT HB.out⟩⟩
              · rw [if_neg c11] at H
                exact absurd H (by simp)
            · rw [if_neg c10] at H
              have c10b0 : decide (x9_1 < (t208.length : Int)) = false := decide_eq_false c10
              clear c10
              replace H := Option.bind_eq_some_iff.mp H
              obtain ⟨⟨t214, t215⟩, A150, H⟩ := H
              replace H : (if t215 = 0 then ((csv_Split.f t214).bind fun bt216 => (if bt216.2.2 = 0 then ((refrainlaw4_same.f k1 t208 bt216.1).bind fun t221 => (refrainlaw4_CsvAgain.j1 k1 a1 t208 t214 (!t221))) else (refrainlaw4_CsvAgain.j1 k1 a1 t208 t214 true))) else (some (t215 == 2))) = some r := H
              have A15 := Aside0.mk A150
              clear A150
              by_cases c16 : t215 = 0
              · rw [if_pos c16] at H
                have c16b0 : (t215 == 0) = true := beq_iff_eq.mpr c16
                have c16b1 : (t215 != 0) = false := bne_eq_false_iff_eq.mpr c16
                clear c16
                replace H := Option.bind_eq_some_iff.mp H
                obtain ⟨⟨t216, t217, t218⟩, A170, H⟩ := H
                replace H : (if t218 = 0 then ((refrainlaw4_same.f k1 t208 t216).bind fun t221 => (refrainlaw4_CsvAgain.j1 k1 a1 t208 t214 (!t221))) else (refrainlaw4_CsvAgain.j1 k1 a1 t208 t214 true)) = some r := H
                have A17 := Aside0.mk A170
                clear A170
                have HC18 := Aside0.mk H
                clear H
                obtain ⟨Ao19, co19, eo19⟩ := Kd.S_slice HO_6.out
                subst eo19
                go_upto_region 20 with (first | ((with_reducible refine gate_callee (f := 18) rfl ?_); refine goesT (some 73) Tryd.func18 #[.slice Ao19 t208.length co19] ?_; (with_reducible refine (csv_Join.calls _ _ t208 t214 t215 _ ?side1 ?side2 ?side3 A15.out).mono ?_); (case side1 => repeat (first | exact (Kd.S_reads' HO_6.out).2.2 | (with_reducible refine Kd.C_alloc ?_ _) | (with_reducible refine Kd.C_drewN ?_ _) | (with_reducible refine Kd.C_drew ?_))); (case side2 => exact (Kd.S_reads' HO_6.out).2.1); (case side3 => first | (with_reducible exact HL_LMax) | exact ⟨LMax.below HL_LMax.out (hbT HB.out)⟩); rintro e w20 ⟨rfl, hb⟩; refine ⟨_, rfl, ?_⟩; replace HO_6 := Aside0.mk (Kd.S_below (by (with_reducible repeat (first | apply Kd.S_alloc | apply Kd.S_drewN | apply Kd.S_drew)); exact HO_6.out) hb); replace HB := bsA HB hb; (try clear hb); (try clear hb2); (try clear hk); (try clear hi)) | ((with_reducible refine gate_callee (f := 14) rfl ?_); refine goesT (some 82) Tryd.func14 #[.string t214] ?_; (with_reducible refine (csv_Split.calls t214 t216 t217 t218 _ A17.out).mono ?_); rintro e w21 ⟨v219, rfl, ho0, hb⟩; refine ⟨_, rfl, ?_⟩; have HO220 := Aside0.mk (Kd.S_lower (Kd.S_new' ho0 (Kd.S_lt (by (with_reducible repeat (first | apply Kd.S_alloc | apply Kd.S_drewN | apply Kd.S_drew)); exact HO_6.out))) (below_size (hbT HB.out))); replace HO_6 := Aside0.mk (Kd.S_elder' (by (with_reducible repeat (first | apply Kd.S_alloc | apply Kd.S_drewN | apply Kd.S_drew)); exact HO_6.out) (Kd.S_base ho0) hb); replace HB := bsA HB hb; (try clear hb); (try clear hb2); (try clear hk); (try clear hi); (try clear ho0)))
                (try simp only [Act.put, List.setIfInBounds_toArray, List.set_cons_zero, List.set_cons_succ])
                go_cut [93] (fun v93 wc => ∃ (kq : Nat) (x93_17 : Bool), v93 = .bool x93_17 ∧ Aside0 (refrainlaw4_CsvAgain.j1 kq a1 t208 t214 x93_17 = some r) ∧ Aside0 (kq ≤ k1) ∧ Aside0 (Kd.S (Kd.slice 9 Kd.string) 22 wc w.heap.size (fun _ => True) (.slice Ao19 t208.length co19) t208) ∧ Aside0 (Below w.heap.size w wc))
                case first =>
                  have H := HC18.out
                  clear HC18
                  by_cases c22 : t218 = 0
                  · rw [if_pos c22] at H
                    have c22b0 : (t218 == 0) = true := beq_iff_eq.mpr c22
                    have c22b1 : (t218 != 0) = false := bne_eq_false_iff_eq.mpr c22
                    clear c22
                    (first | rw [c22b0] | (simp only [i64_w, i32_w, IntKind.wrap_u8, IntKind.wrap_u16, IntKind.wrap_u32]; rw [c22b0]) | skip)
                    replace H := Option.bind_eq_some_iff.mp H
                    obtain ⟨t221, A230, H⟩ := H
                    replace H : (refrainlaw4_CsvAgain.j1 k1 a1 t208 t214 (!t221)) = some r := H
                    have A23 := Aside0.mk A230
                    clear A230
                    have H' := Aside0.mk H
                    clear H
                    obtain ⟨Ao24, co24, eo24⟩ := Kd.S_slice HO220.out
                    subst eo24
                    go_wp2_with (first | (go_at_call 16; (with_reducible refine (refrainlaw4_same.calls k1 _ _ t208 _ _ t216 t221 _ ?side1 ?side2 ?side3 ?side4 A23.out).mono ?_); (case side1 => repeat (first | exact (Kd.S_reads' HO_6.out).2.2 | (with_reducible refine Kd.C_alloc ?_ _) | (with_reducible refine Kd.C_drewN ?_ _) | (with_reducible refine Kd.C_drew ?_))); (case side2 => exact (Kd.S_reads' HO_6.out).2.1); (case side3 => repeat (first | exact (Kd.S_reads' HO220.out).2.2 | (with_reducible refine Kd.C_alloc ?_ _) | (with_reducible refine Kd.C_drewN ?_ _) | (with_reducible refine Kd.C_drew ?_))); (case side4 => exact (Kd.S_reads' HO220.out).2.1); rintro e w' ⟨rfl, ⟨nd, rfl⟩⟩))
                    go_meet
                    case rel => exact ⟨_, (!t221), (by first | rfl | (simp; done) | (simp [*]; done) | (simp; unfold wrap64; omega) | (congr 1; (try rw [Bool.eq_iff_iff]); simp [List.isEmpty_iff]; done)), H', ⟨by have := HK1.out; first | omega | exact Nat.le_refl _⟩, ⟨by (with_reducible repeat (first | apply Kd.S_alloc | apply Kd.S_drewN | apply Kd.S_drew)); exact Kd.S_mono HO_6.out (fun _ hk => trivial)⟩, ⟨hbT HB.out⟩⟩
                  · rw [if_neg c22] at H
                    have c22b0 : (t218 == 0) = false := beq_eq_false_iff_ne.mpr c22
                    have c22b1 : (t218 != 0) = true := bne_iff_ne.mpr c22
                    (first | rw [c22b0] | (simp only [i64_w, i32_w, IntKind.wrap_u8, IntKind.wrap_u16, IntKind.wrap_u32]; rw [c22b0]) | skip)
                    have H' := Aside0.mk H
                    clear H
                    go_wp2
                    go_meet
                    case rel => exact ⟨_, (true), (by first | rfl | (simp; done) | (simp [*]; done) | (simp; unfold wrap64; omega) | (congr 1; (try rw [Bool.eq_iff_iff]); simp [List.isEmpty_iff]; done)), H', ⟨by have := HK1.out; first | omega | exact Nat.le_refl _⟩, ⟨by (with_reducible repeat (first | apply Kd.S_alloc | apply Kd.S_drewN | apply Kd.S_drew)); exact Kd.S_mono HO_6.out (fun _ hk => trivial)⟩, ⟨hbT HB.out⟩⟩
                case rest =>
                  clear HC18
                  try clear c1
                  try clear c2
                  try clear p2
                  try clear q2
                  try clear hx2
                  try clear c4
                  try clear c6
                  try clear c6b0
                  try clear c6b1
                  try clear p6
                  try clear c7
                  try clear c7b0
                  try clear c7b1
                  try clear c10
                  try clear c10b0
                  try clear c11
                  try clear c11b0
                  try clear c12
                  try clear c12b0
                  try clear c12b1
                  try clear c12b2
                  try clear c13
                  try clear c14
                  try clear c16
                  try clear c16b0
                  try clear c16b1
                  try clear c18
                  try clear c21
                  try clear p21
                  try clear q21
                  try clear hx21
                  try clear c22
                  try clear c22b0
                  try clear c22b1
                  try clear hx213_0
                  try clear p2
                  try clear p213
                  try clear q213
                  obtain ⟨kq, x93_17, rfl, HA, HJ17, HO_6, HB⟩ := hcut
                  cases kq with
                  | zero => (have HA2 := HA.out; clear HA; revert HA2; rw [refrainlaw4_CsvAgain.j1_zero]; intro h_; cases h_)
                  | succ kj17 =>
                    have H := HA.out
                    clear HA
                    simp only [refrainlaw4_CsvAgain.j1] at H
                    by_cases c25 : x93_17 = true
                    · subst c25
                      have H1 : (some false) = some r := by rw [if_pos rfl] at H; exact H
                      clear H
                      have H := H1
                      clear H1
                      obtain rfl := Option.some.inj H
                      go_wp2
                      go_ret
                      exact ⟨by first | rfl | (simp [errW_none, errW_some] <;> rfl) | (simp [*, errW_none, errW_some] <;> rfl), hbT HB.out⟩
                    · replace c25 := Bool.eq_false_iff.mpr c25
                      subst c25
                      have H1 : (if t214.size + a1.size ≤ 9223372036854775807 then ((csv_Split.f (t214 ++ a1)).bind fun bt222 => ((csv_Split.f a1).bind fun bt227 => (if bt222.2.2 = 0 then (refrainlaw4_CsvAgain.j2 kj17 t208 bt222.1 bt227.1 (bt227.2.2 != 0)) else (refrainlaw4_CsvAgain.j2 kj17 t208 bt222.1 bt227.1 true)))) else (none)) = some r := by rw [if_neg (show ¬ (false = true) by decide)] at H; exact H
                      clear H
                      have H := H1
                      clear H1
                      by_cases c26 : t214.size + a1.size ≤ 9223372036854775807
                      · rw [if_pos c26] at H
                        have c26b0 := eq_true c26
                        have c26b1 : decide (t214.size + a1.size ≤ 9223372036854775807) = true := decide_eq_true c26
                        try have c26b2 : (9223372036854775807 < t214.size + a1.size) = False := eq_false (Nat.not_lt.2 c26)
                        replace H := Option.bind_eq_some_iff.mp H
                        obtain ⟨⟨t222, t223, t224⟩, A270, H⟩ := H
                        replace H : ((csv_Split.f a1).bind fun bt227 => (if t224 = 0 then (refrainlaw4_CsvAgain.j2 kj17 t208 t222 bt227.1 (bt227.2.2 != 0)) else (refrainlaw4_CsvAgain.j2 kj17 t208 t222 bt227.1 true))) = some r := H
                        have A27 := Aside0.mk A270
                        clear A270
                        replace H := Option.bind_eq_some_iff.mp H
                        obtain ⟨⟨t227, t228, t229⟩, A280, H⟩ := H
                        replace H : (if t224 = 0 then (refrainlaw4_CsvAgain.j2 kj17 t208 t222 t227 (t229 != 0)) else (refrainlaw4_CsvAgain.j2 kj17 t208 t222 t227 true)) = some r := H
                        have A28 := Aside0.mk A280
                        clear A280
                        have HC29 := Aside0.mk H
                        clear H
                        go_upto_region 24 with (first | ((with_reducible refine gate_callee (f := 14) rfl ?_); refine goesT (some 98) Tryd.func14 #[.string (t214 ++ a1)] ?_; (with_reducible refine (csv_Split.calls (t214 ++ a1) t222 t223 t224 _ A27.out).mono ?_); rintro e w30 ⟨v225, rfl, ho0, hb⟩; refine ⟨_, rfl, ?_⟩; have HO226 := Aside0.mk (Kd.S_lower (Kd.S_new' ho0 (Kd.S_lt (by (with_reducible repeat (first | apply Kd.S_alloc | apply Kd.S_drewN | apply Kd.S_drew)); exact HO_6.out))) (below_size (hbT HB.out))); replace HO_6 := Aside0.mk (Kd.S_elder' (by (with_reducible repeat (first | apply Kd.S_alloc | apply Kd.S_drewN | apply Kd.S_drew)); exact HO_6.out) (Kd.S_base ho0) hb); replace HB := bsA HB hb; (try clear hb); (try clear hb2); (try clear hk); (try clear hi); (try clear ho0)) | ((with_reducible refine gate_callee (f := 14) rfl ?_); refine goesT (some 104) Tryd.func14 #[.string a1] ?_; (with_reducible refine (csv_Split.calls a1 t227 t228 t229 _ A28.out).mono ?_); rintro e w31 ⟨v230, rfl, ho0, hb⟩; refine ⟨_, rfl, ?_⟩; have HO231 := Aside0.mk (Kd.S_lower (Kd.S_new' (Kd.S_new' ho0 (Kd.S_lt (by (with_reducible repeat (first | apply Kd.S_alloc | apply Kd.S_drewN | apply Kd.S_drew)); exact HO_6.out))) (Kd.S_lt (by (with_reducible repeat (first | apply Kd.S_alloc | apply Kd.S_drewN | apply Kd.S_drew)); exact HO226.out))) (below_size (hbT HB.out))); replace HO_6 := Aside0.mk (Kd.S_elder' (by (with_reducible repeat (first | apply Kd.S_alloc | apply Kd.S_drewN | apply Kd.S_drew)); exact HO_6.out) (Kd.S_base ho0) hb); replace HO226 := Aside0.mk (Kd.S_elder' (by (with_reducible repeat (first | apply Kd.S_alloc | apply Kd.S_drewN | apply Kd.S_drew)); exact HO226.out) (Kd.S_base ho0) hb); replace HB := bsA HB hb; (try clear hb); (try clear hb2); (try clear hk); (try clear hi); (try clear ho0)))
                        (try simp only [Act.put, List.setIfInBounds_toArray, List.set_cons_zero, List.set_cons_succ])
                        go_cut [113] (fun v113 wc => ∃ (kq : Nat) (x113_28 : Bool), v113 = .bool x113_28 ∧ Aside0 (refrainlaw4_CsvAgain.j2 kq t208 t222 t227 x113_28 = some r) ∧ Aside0 (kq ≤ kj17) ∧ Aside0 (Kd.S (Kd.slice 9 Kd.string) 22 wc w.heap.size (fun k_ => some k_ ≠ (v225 : Value).ownBlock ∧ some k_ ≠ (v230 : Value).ownBlock) (.slice Ao19 t208.length co19) t208) ∧ Aside0 (Kd.S (Kd.slice 9 Kd.string) 22 wc w.heap.size (fun k_ => some k_ ≠ ((.slice Ao19 t208.length co19) : Value).ownBlock ∧ some k_ ≠ (v230 : Value).ownBlock) v225 t222) ∧ Aside0 (Kd.S (Kd.slice 9 Kd.string) 22 wc w.heap.size (fun k_ => some k_ ≠ ((.slice Ao19 t208.length co19) : Value).ownBlock ∧ some k_ ≠ (v225 : Value).ownBlock) v230 t227) ∧ Aside0 (Below w.heap.size w wc))
                        case first =>
                          have H := HC29.out
                          clear HC29
                          by_cases c32 : t224 = 0
                          · rw [if_pos c32] at H
                            have c32b0 : (t224 == 0) = true := beq_iff_eq.mpr c32
                            have c32b1 : (t224 != 0) = false := bne_eq_false_iff_eq.mpr c32
                            clear c32
                            (first | rw [c32b0] | (simp only [i64_w, i32_w, IntKind.wrap_u8, IntKind.wrap_u16, IntKind.wrap_u32]; rw [c32b0]) | skip)
                            have H' := Aside0.mk H
                            clear H
                            go_wp2
                            go_meet
                            case rel => exact ⟨_, ((t229 != 0)), (by first | rfl | (simp; done) | (simp [*]; done) | (simp; unfold wrap64; omega) | (congr 1; (try rw [Bool.eq_iff_iff]); simp [List.isEmpty_iff]; done)), H', ⟨by have := HK1.out; have := HJ17.out; first | omega | exact Nat.le_refl _⟩, ⟨by (with_reducible repeat (first | apply Kd.S_alloc | apply Kd.S_drewN | apply Kd.S_drew)); exact Kd.S_mono HO_6.out (fun _ hk => ⟨hk.1.2, hk.2⟩)⟩, ⟨by (with_reducible repeat (first | apply Kd.S_alloc | apply Kd.S_drewN | apply Kd.S_drew)); exact Kd.S_mono HO226.out (fun _ hk => ⟨hk.1.2, hk.2⟩)⟩, ⟨by (with_reducible repeat (first | apply Kd.S_alloc | apply Kd.S_drewN | apply Kd.S_drew)); exact Kd.S_mono HO231.out (fun _ hk => ⟨hk.1.2, hk.2⟩)⟩, ⟨hbT HB.out⟩⟩
                          · rw [if_neg c32] at H
                            have c32b0 : (t224 == 0) = false := beq_eq_false_iff_ne.mpr c32
                            have c32b1 : (t224 != 0) = true := bne_iff_ne.mpr c32
                            (first | rw [c32b0] | (simp only [i64_w, i32_w, IntKind.wrap_u8, IntKind.wrap_u16, IntKind.wrap_u32]; rw [c32b0]) | skip)
                            have H' := Aside0.mk H
                            clear H
                            go_wp2
                            go_meet
                            case rel => exact ⟨_, (true), (by first | rfl | (simp; done) | (simp [*]; done) | (simp; unfold wrap64; omega) | (congr 1; (try rw [Bool.eq_iff_iff]); simp [List.isEmpty_iff]; done)), H', ⟨by have := HK1.out; have := HJ17.out; first | omega | exact Nat.le_refl _⟩, ⟨by (with_reducible repeat (first | apply Kd.S_alloc | apply Kd.S_drewN | apply Kd.S_drew)); exact Kd.S_mono HO_6.out (fun _ hk => ⟨hk.1.2, hk.2⟩)⟩, ⟨by (with_reducible repeat (first | apply Kd.S_alloc | apply Kd.S_drewN | apply Kd.S_drew)); exact Kd.S_mono HO226.out (fun _ hk => ⟨hk.1.2, hk.2⟩)⟩, ⟨by (with_reducible repeat (first | apply Kd.S_alloc | apply Kd.S_drewN | apply Kd.S_drew)); exact Kd.S_mono HO231.out (fun _ hk => ⟨hk.1.2, hk.2⟩)⟩, ⟨hbT HB.out⟩⟩
                        case rest =>
                          clear HC29
                          try clear c1
                          try clear c2
                          try clear p2
                          try clear q2
                          try clear hx2
                          try clear c3
                          try clear c4
                          try clear c6
                          try clear c6b0
                          try clear c6b1
                          try clear p6
                          try clear c7
                          try clear c7b0
                          try clear c7b1
                          try clear c10
                          try clear c10b0
                          try clear c11
                          try clear c11b0
                          try clear c12
                          try clear c12b0
                          try clear c12b1
                          try clear c12b2
                          try clear c13
                          try clear c14
                          try clear c16
                          try clear c16b0
                          try clear c16b1
                          try clear c18
                          try clear c21
                          try clear p21
                          try clear q21
                          try clear hx21
                          try clear c22
                          try clear c22b0
                          try clear c22b1
                          try clear c25
                          try clear c26
                          try clear c26b0
                          try clear c26b1
                          try clear c26b2
                          try clear c32
                          try clear c32b0
                          try clear c32b1
                          try clear hx213_0
                          try clear p2
                          try clear p21
                          try clear p213
                          try clear p6
                          try clear q2
                          try clear q21
                          try clear q213
                          obtain ⟨kq, x113_28, rfl, HA, HJ28, HO_6, HO_15, HO_18, HB⟩ := hcut
                          cases kq with
                          | zero => (have HA2 := HA.out; clear HA; revert HA2; rw [refrainlaw4_CsvAgain.j2_zero]; intro h_; cases h_)
                          | succ kj28 =>
                            have H := HA.out
                            clear HA
                            simp only [refrainlaw4_CsvAgain.j2] at H
                            by_cases c33 : x113_28 = true
                            · subst c33
                              have H1 : (some true) = some r := by rw [if_pos rfl] at H; exact H
                              clear H
                              have H := H1
                              clear H1
                              obtain rfl := Option.some.inj H
                              go_wp2
                              go_ret
                              exact ⟨by first | rfl | (simp [errW_none, errW_some] <;> rfl) | (simp [*, errW_none, errW_some] <;> rfl), hbT HB.out⟩
                            · replace c33 := Bool.eq_false_iff.mpr c33
                              subst c33
                              have H1 : (if (t222.length : Int) = (wrap64 ((t208.length : Int) + (t227.length : Int))) then (if 0 ≤ (t208.length : Int) then (if (t208.length : Int) ≤ (t222.length : Int) then ((refrainlaw4_same.f kj28 (t222.take ((t208.length : Int) : Int).toNat) t208).bind fun t236 => (if t236 = true then ((refrainlaw4_same.f kj28 (t222.drop ((t208.length : Int) : Int).toNat) t227).bind fun t241 => (some t241)) else (some false))) else (none)) else (none)) else (some false)) = some r := by rw [if_neg (show ¬ (false = true) by decide)] at H; exact H
                              clear H
                              have H := H1
                              clear H1
                              by_cases c34 : (t222.length : Int) = (wrap64 ((t208.length : Int) + (t227.length : Int)))
                              · rw [if_pos c34] at H
                                have c34b0 : ((t222.length : Int) == (wrap64 ((t208.length : Int) + (t227.length : Int)))) = true := beq_iff_eq.mpr c34
                                have c34b1 : ((t222.length : Int) != (wrap64 ((t208.length : Int) + (t227.length : Int)))) = false := bne_eq_false_iff_eq.mpr c34
                                clear c34
                                by_cases c35 : 0 ≤ (t208.length : Int)
                                · rw [if_pos c35] at H
                                  have c35b0 := eq_true c35
                                  have c35b1 : decide (0 ≤ (t208.length : Int)) = true := decide_eq_true c35
                                  clear c35
                                  by_cases c36 : (t208.length : Int) ≤ (t222.length : Int)
                                  · rw [if_pos c36] at H
                                    have c36b0 := eq_true c36
                                    have c36b1 : decide ((t208.length : Int) ≤ (t222.length : Int)) = true := decide_eq_true c36
                                    clear c36
                                    obtain ⟨y232, hy232⟩ : ∃ y_ : List (List ByteArray), y_ = (t222.take ((t208.length : Int) : Int).toNat) := ⟨_, rfl⟩
                                    replace H : ((refrainlaw4_same.f kj28 y232 t208).bind fun t236 => (if t236 = true then ((refrainlaw4_same.f kj28 (t222.drop ((t208.length : Int) : Int).toNat) t227).bind fun t241 => (some t241)) else (some false))) = some r := by first | (rw [hy232]; with_reducible exact H) | (have H2_ := (Option.bind_some _ _).symm.trans H; rw [hy232]; with_reducible exact H2_) | (have H2_ := (Option.bind_some _ _).symm.trans H; with_reducible exact H2_) | with_reducible exact H | (rw [hy232]; exact H) | exact H
                                    have Ny232 := Aside0.mk hy232
                                    clear hy232
                                    replace H := Option.bind_eq_some_iff.mp H
                                    obtain ⟨t236, A370, H⟩ := H
                                    replace H : (if t236 = true then ((refrainlaw4_same.f kj28 (t222.drop ((t208.length : Int) : Int).toNat) t227).bind fun t241 => (some t241)) else (some false)) = some r := H
                                    have A37 := Aside0.mk A370
                                    clear A370
                                    by_cases c38 : t236 = true
                                    · subst c38
                                      have H1 : ((refrainlaw4_same.f kj28 (t222.drop ((t208.length : Int) : Int).toNat) t227).bind fun t241 => (some t241)) = some r := by rw [if_pos rfl] at H; exact H
                                      clear H
                                      have H := H1
                                      clear H1
                                      have c39b0 := eq_true (of_decide_eq_true (by first | (with_reducible assumption) | assumption) : 0 ≤ (t208.length : Int))
                                      have c40b0 := eq_true (of_decide_eq_true (by first | (with_reducible assumption) | assumption) : (t208.length : Int) ≤ (t222.length : Int))
                                      obtain ⟨y237, hy237⟩ : ∃ y_ : List (List ByteArray), y_ = (t222.drop ((t208.length : Int) : Int).toNat) := ⟨_, rfl⟩
                                      replace H : ((refrainlaw4_same.f kj28 y237 t227).bind fun t241 => (some t241)) = some r := by first | (rw [hy237]; with_reducible exact H) | (have H2_ := (Option.bind_some _ _).symm.trans H; rw [hy237]; with_reducible exact H2_) | (have H2_ := (Option.bind_some _ _).symm.trans H; with_reducible exact H2_) | with_reducible exact H | (rw [hy237]; exact H) | exact H
                                      have Ny237 := Aside0.mk hy237
                                      clear hy237
                                      replace H := Option.bind_eq_some_iff.mp H
                                      obtain ⟨t241, A410, H⟩ := H
                                      replace H : (some t241) = some r := H
                                      have A41 := Aside0.mk A410
                                      clear A410
                                      obtain rfl := Option.some.inj H
                                      obtain ⟨Ao42, co42, eo42⟩ := Kd.S_slice HO_15.out
                                      subst eo42
                                      obtain ⟨Ao43, co43, eo43⟩ := Kd.S_slice HO_18.out
                                      subst eo43
                                      have q44 : ((t208.length : Int) : Int) ≤ ((t222.length : Int) : Int) := of_decide_eq_true (by first | (with_reducible assumption) | assumption)
                                      obtain ⟨i044, hi044, _, hsz44, _⟩ := info_parts info22
                                      have hroom44 : t222.length ≤ co42 := (Kd.S_reads' HO_15.out).2.1
                                      have hC44 : Kd.C (Kd.slice 9 Kd.string) _ Ao42 t222.length t222 := (Kd.S_reads' HO_15.out).2.2
                                      have hcut44 := cut_to (P := Tryd.prog) 24 22 .i64 Tryd.underlying24 hi044 Ao42 t222.length co42 (t208.length : Int) (of_decide_eq_true (by first | (with_reducible assumption) | assumption)) q44 hroom44
                                      have hr44 := Kd.C_take (m := ((t208.length : Int) : Int).toNat) hC44 (by omega)
                                      have hy44 : y232.length = ((t208.length : Int) : Int).toNat := (by rw [Ny232.out, List.length_take]; omega)
                                      rw [← Ny232.out] at hr44
                                      rw [← hy44] at hcut44
                                      have HR235 := Aside0.mk hr44
                                      have HC235 := Aside0.mk (show y232.length ≤ co42 from by omega)
                                      clear hr44 hC44 hroom44 hi044 hsz44
                                      have KY44 := Aside0.mk hy44
                                      clear hy44
                                      have KL44 := Aside0.mk (show ((t208.length : Int) : Int).toNat ≤ t222.length from by omega)
                                      replace q44 := eq_true q44
                                      go_wp2_with (first | (go_at_call 16; (with_reducible refine (refrainlaw4_same.calls kj28 _ _ y232 _ _ t208 true _ ?side1 ?side2 ?side3 ?side4 A37.out).mono ?_); (case side1 => repeat (first | exact (by repeat (first | (with_reducible exact HR235.out) | (with_reducible refine Kd.C_alloc ?_ _) | (with_reducible refine Kd.C_drewN ?_ _) | (with_reducible refine Kd.C_drew ?_) | exact HR235.out)) | (with_reducible refine Kd.C_alloc ?_ _) | (with_reducible refine Kd.C_drewN ?_ _) | (with_reducible refine Kd.C_drew ?_))); (case side2 => exact HC235.out); (case side3 => repeat (first | exact (Kd.S_reads' HO_6.out).2.2 | (with_reducible refine Kd.C_alloc ?_ _) | (with_reducible refine Kd.C_drewN ?_ _) | (with_reducible refine Kd.C_drew ?_))); (case side4 => exact (Kd.S_reads' HO_6.out).2.1); rintro e w' ⟨rfl, ⟨nd, rfl⟩⟩; have q45 : ((t208.length : Int) : Int) ≤ ((t222.length : Int) : Int) := of_decide_eq_true (by first | (with_reducible assumption) | assumption); obtain ⟨i045, hi045, _, hsz45, _⟩ := info_parts info22; have hroom45 : t222.length ≤ co42 := (Kd.S_reads' HO_15.out).2.1; have hC45 : Kd.C (Kd.slice 9 Kd.string) _ Ao42 t222.length t222 := (Kd.S_reads' HO_15.out).2.2; have q045 : (0 : Int) ≤ ((t208.length : Int) : Int) := of_decide_eq_true (by first | (with_reducible assumption) | assumption); have hcut45 := cut_from (P := Tryd.prog) 24 22 .i64 Tryd.underlying24 hi045 1 hsz45 Ao42 t222.length co42 (t208.length : Int) q045 q45; have hr45 := Kd.C_drop (m := ((t208.length : Int) : Int).toNat) (c := co42) hC45 (by omega) hroom45; obtain ⟨A45, hA45⟩ : ∃ A1, A1 = (if co42 = ((t208.length : Int) : Int).toNat then Ao42 else (Ao42 : Option Addr).map (·.add (((t208.length : Int) : Int).toNat * 1))) := ⟨_, rfl⟩; obtain ⟨c45, hc45⟩ : ∃ c1, c1 = co42 - ((t208.length : Int) : Int).toNat := ⟨_, rfl⟩; have hy45 : y237.length = t222.length - ((t208.length : Int) : Int).toNat := (by rw [Ny237.out, List.length_drop] <;> omega); rw [show (t222).drop ((t208.length : Int) : Int).toNat = y237 from Ny237.out.symm] at hr45; replace hr45 : Kd.C (Kd.slice 9 Kd.string) _ A45 y237.length y237 := (by rw [hA45]; exact hr45); rw [← hy45, ← hA45, ← hc45] at hcut45; have HR240 := Aside0.mk hr45; have HC240 := Aside0.mk (show y237.length ≤ c45 from by rw [hy45, hc45]; exact Nat.sub_le_sub_right hroom45 _); clear hr45 hC45 hroom45 hi045 hsz45 hc45; have KY45 := Aside0.mk hy45; have KA45 := Aside0.mk hA45; clear hy45 hA45; have KL45 := Aside0.mk (show ((t208.length : Int) : Int).toNat ≤ t222.length from by omega); replace q45 := eq_true q45) | (go_at_call 16; (with_reducible refine (refrainlaw4_same.calls kj28 _ _ y237 _ _ t227 t241 _ ?side1 ?side2 ?side3 ?side4 A41.out).mono ?_); (case side1 => repeat (first | exact (by repeat (first | (with_reducible exact HR240.out) | (with_reducible refine Kd.C_alloc ?_ _) | (with_reducible refine Kd.C_drewN ?_ _) | (with_reducible refine Kd.C_drew ?_) | exact HR240.out)) | (with_reducible refine Kd.C_alloc ?_ _) | (with_reducible refine Kd.C_drewN ?_ _) | (with_reducible refine Kd.C_drew ?_))); (case side2 => exact HC240.out); (case side3 => repeat (first | exact (Kd.S_reads' HO_18.out).2.2 | (with_reducible refine Kd.C_alloc ?_ _) | (with_reducible refine Kd.C_drewN ?_ _) | (with_reducible refine Kd.C_drew ?_))); (case side4 => exact (Kd.S_reads' HO_18.out).2.1); rintro e w' ⟨rfl, ⟨nd, rfl⟩⟩))
                                      go_ret
                                      exact ⟨by first | rfl | (simp [errW_none, errW_some] <;> rfl) | (simp [*, errW_none, errW_some] <;> rfl), hbT HB.out⟩
                                    · replace c38 := Bool.eq_false_iff.mpr c38
                                      subst c38
                                      have H1 : (some false) = some r := by rw [if_neg (show ¬ (false = true) by decide)] at H; exact H
                                      clear H
                                      have H := H1
                                      clear H1
                                      obtain rfl := Option.some.inj H
                                      obtain ⟨Ao46, co46, eo46⟩ := Kd.S_slice HO_15.out
                                      subst eo46
                                      obtain ⟨Ao47, co47, eo47⟩ := Kd.S_slice HO_18.out
                                      subst eo47
                                      have q48 : ((t208.length : Int) : Int) ≤ ((t222.length : Int) : Int) := of_decide_eq_true (by first | (with_reducible assumption) | assumption)
                                      obtain ⟨i048, hi048, _, hsz48, _⟩ := info_parts info22
                                      have hroom48 : t222.length ≤ co46 := (Kd.S_reads' HO_15.out).2.1
                                      have hC48 : Kd.C (Kd.slice 9 Kd.string) _ Ao46 t222.length t222 := (Kd.S_reads' HO_15.out).2.2
                                      have hcut48 := cut_to (P := Tryd.prog) 24 22 .i64 Tryd.underlying24 hi048 Ao46 t222.length co46 (t208.length : Int) (of_decide_eq_true (by first | (with_reducible assumption) | assumption)) q48 hroom48
                                      have hr48 := Kd.C_take (m := ((t208.length : Int) : Int).toNat) hC48 (by omega)
                                      have hy48 : y232.length = ((t208.length : Int) : Int).toNat := (by rw [Ny232.out, List.length_take]; omega)
                                      rw [← Ny232.out] at hr48
                                      rw [← hy48] at hcut48
                                      have HR235 := Aside0.mk hr48
                                      have HC235 := Aside0.mk (show y232.length ≤ co46 from by omega)
                                      clear hr48 hC48 hroom48 hi048 hsz48
                                      have KY48 := Aside0.mk hy48
                                      clear hy48
                                      have KL48 := Aside0.mk (show ((t208.length : Int) : Int).toNat ≤ t222.length from by omega)
                                      replace q48 := eq_true q48
                                      go_wp2_with (first | (go_at_call 16; (with_reducible refine (refrainlaw4_same.calls kj28 _ _ y232 _ _ t208 false _ ?side1 ?side2 ?side3 ?side4 A37.out).mono ?_); (case side1 => repeat (first | exact (by repeat (first | (with_reducible exact HR235.out) | (with_reducible refine Kd.C_alloc ?_ _) | (with_reducible refine Kd.C_drewN ?_ _) | (with_reducible refine Kd.C_drew ?_) | exact HR235.out)) | (with_reducible refine Kd.C_alloc ?_ _) | (with_reducible refine Kd.C_drewN ?_ _) | (with_reducible refine Kd.C_drew ?_))); (case side2 => exact HC235.out); (case side3 => repeat (first | exact (Kd.S_reads' HO_6.out).2.2 | (with_reducible refine Kd.C_alloc ?_ _) | (with_reducible refine Kd.C_drewN ?_ _) | (with_reducible refine Kd.C_drew ?_))); (case side4 => exact (Kd.S_reads' HO_6.out).2.1); rintro e w' ⟨rfl, ⟨nd, rfl⟩⟩))
                                      go_ret
                                      exact ⟨by first | rfl | (simp [errW_none, errW_some] <;> rfl) | (simp [*, errW_none, errW_some] <;> rfl), hbT HB.out⟩
                                  · rw [if_neg c36] at H
                                    exact absurd H (by simp)
                                · rw [if_neg c35] at H
                                  exact absurd H (by simp)
                              · rw [if_neg c34] at H
                                have c34b0 : ((t222.length : Int) == (wrap64 ((t208.length : Int) + (t227.length : Int)))) = false := beq_eq_false_iff_ne.mpr c34
                                have c34b1 : ((t222.length : Int) != (wrap64 ((t208.length : Int) + (t227.length : Int)))) = true := bne_iff_ne.mpr c34
                                obtain rfl := Option.some.inj H
                                obtain ⟨Ao49, co49, eo49⟩ := Kd.S_slice HO_15.out
                                subst eo49
                                obtain ⟨Ao50, co50, eo50⟩ := Kd.S_slice HO_18.out
                                subst eo50
                                go_wp2
                                go_ret
                                exact ⟨by first | rfl | (simp [errW_none, errW_some] <;> rfl) | (simp [*, errW_none, errW_some] <;> rfl), hbT HB.out⟩
                      · rw [if_neg c26] at H
                        exact absurd H (by simp)
              · rw [if_neg c16] at H
                have c16b0 : (t215 == 0) = false := beq_eq_false_iff_ne.mpr c16
                have c16b1 : (t215 != 0) = true := bne_iff_ne.mpr c16
                obtain rfl := Option.some.inj H
                obtain ⟨Ao51, co51, eo51⟩ := Kd.S_slice HO_6.out
                subst eo51
                go_wp2_with (first | ((with_reducible refine gate_callee (f := 18) rfl ?_); refine goesT (some 73) Tryd.func18 #[.slice Ao51 t208.length co51] ?_; (with_reducible refine (csv_Join.calls _ _ t208 t214 t215 _ ?side1 ?side2 ?side3 A15.out).mono ?_); (case side1 => repeat (first | exact (Kd.S_reads' HO_6.out).2.2 | (with_reducible refine Kd.C_alloc ?_ _) | (with_reducible refine Kd.C_drewN ?_ _) | (with_reducible refine Kd.C_drew ?_))); (case side2 => exact (Kd.S_reads' HO_6.out).2.1); (case side3 => first | (with_reducible exact HL_LMax) | exact ⟨LMax.below HL_LMax.out (hbT HB.out)⟩); rintro e w52 ⟨rfl, hb⟩; refine ⟨_, rfl, ?_⟩; replace HO_6 := Aside0.mk (Kd.S_below (by (with_reducible repeat (first | apply Kd.S_alloc | apply Kd.S_drewN | apply Kd.S_drew)); exact HO_6.out) hb); replace HB := bsA HB hb; (try clear hb); (try clear hb2); (try clear hk); (try clear hi)))
                go_ret
                exact ⟨by first | rfl | (simp [errW_none, errW_some] <;> rfl) | (simp [*, errW_none, errW_some] <;> rfl), hbT HB.out⟩
      · rw [if_neg c7] at H
        have c7b0 : (t209 == 0) = false := beq_eq_false_iff_ne.mpr c7
        have c7b1 : (t209 != 0) = true := bne_iff_ne.mpr c7
        obtain rfl := Option.some.inj H
        go_enter Tryd.func6, Tryd.ntmps6
        go_wp2_with (first | ((with_reducible refine gate_callee (f := 13) rfl ?_); refine goesT (some 21) Tryd.func13 #[] ?_; (with_reducible refine (refrainlaw4_begun.calls  true _ ?side1 A3.out).mono ?_); (case side1 => first | (with_reducible exact HL_LMax) | exact ⟨LMax.below HL_LMax.out (hbT HB.out)⟩); rintro e w53 ⟨rfl, hb⟩; refine ⟨_, rfl, ?_⟩; replace HB := bsA HB hb; (try clear hb); (try clear hb2); (try clear hk); (try clear hi)) | ((with_reducible refine gate_callee (f := 14) rfl ?_); refine goesT (some 26) Tryd.func14 #[.string a0] ?_; (with_reducible refine (csv_Split.calls a0 t208 t209 t210 _ A5.out).mono ?_); rintro e w54 ⟨v211, rfl, ho0, hb⟩; refine ⟨_, rfl, ?_⟩; have HO212 := Aside0.mk (Kd.S_lower ho0 (below_size (hbT HB.out))); replace HB := bsA HB hb; (try clear hb); (try clear hb2); (try clear hk); (try clear hi); (try clear ho0)))
        go_ret
        exact ⟨by first | rfl | (simp [errW_none, errW_some] <;> rfl) | (simp [*, errW_none, errW_some] <;> rfl), hbT HB.out⟩
    · rw [if_neg c6] at H
      have c6b0 : (t210 == 0) = false := beq_eq_false_iff_ne.mpr c6
      have c6b1 : (t210 != 0) = true := bne_iff_ne.mpr c6
      by_cases c55 : (t208.length : Int) = 0
      · rw [if_pos c55] at H
        have c55b0 : ((t208.length : Int) == 0) = true := beq_iff_eq.mpr c55
        have c55b1 : ((t208.length : Int) != 0) = false := bne_eq_false_iff_eq.mpr c55
        clear c55
        by_cases c56 : t210 = 2
        · rw [if_pos c56] at H
          have c56b0 : (t210 == 2) = true := beq_iff_eq.mpr c56
          have c56b1 : (t210 != 2) = false := bne_eq_false_iff_eq.mpr c56
          clear c56
          by_cases c57 : t209 = 0
          · rw [if_pos c57] at H
            have c57b0 : (t209 == 0) = true := beq_iff_eq.mpr c57
            have c57b1 : (t209 != 0) = false := bne_eq_false_iff_eq.mpr c57
            clear c57
            obtain rfl := Option.some.inj H
            go_enter Tryd.func6, Tryd.ntmps6
            go_wp2_with (first | ((with_reducible refine gate_callee (f := 13) rfl ?_); refine goesT (some 21) Tryd.func13 #[] ?_; (with_reducible refine (refrainlaw4_begun.calls  true _ ?side1 A3.out).mono ?_); (case side1 => first | (with_reducible exact HL_LMax) | exact ⟨LMax.below HL_LMax.out (hbT HB.out)⟩); rintro e w58 ⟨rfl, hb⟩; refine ⟨_, rfl, ?_⟩; replace HB := bsA HB hb; (try clear hb); (try clear hb2); (try clear hk); (try clear hi)) | ((with_reducible refine gate_callee (f := 14) rfl ?_); refine goesT (some 26) Tryd.func14 #[.string a0] ?_; (with_reducible refine (csv_Split.calls a0 t208 t209 t210 _ A5.out).mono ?_); rintro e w59 ⟨v211, rfl, ho0, hb⟩; refine ⟨_, rfl, ?_⟩; have HO212 := Aside0.mk (Kd.S_lower ho0 (below_size (hbT HB.out))); replace HB := bsA HB hb; (try clear hb); (try clear hb2); (try clear hk); (try clear hi); (try clear ho0); obtain ⟨Ao60, co60, eo60⟩ := Kd.S_slice HO212.out; subst eo60))
            go_ret
            exact ⟨by first | rfl | (simp [errW_none, errW_some] <;> rfl) | (simp [*, errW_none, errW_some] <;> rfl), hbT HB.out⟩
          · rw [if_neg c57] at H
            have c57b0 : (t209 == 0) = false := beq_eq_false_iff_ne.mpr c57
            have c57b1 : (t209 != 0) = true := bne_iff_ne.mpr c57
            obtain rfl := Option.some.inj H
            go_enter Tryd.func6, Tryd.ntmps6
            go_wp2_with (first | ((with_reducible refine gate_callee (f := 13) rfl ?_); refine goesT (some 21) Tryd.func13 #[] ?_; (with_reducible refine (refrainlaw4_begun.calls  true _ ?side1 A3.out).mono ?_); (case side1 => first | (with_reducible exact HL_LMax) | exact ⟨LMax.below HL_LMax.out (hbT HB.out)⟩); rintro e w61 ⟨rfl, hb⟩; refine ⟨_, rfl, ?_⟩; replace HB := bsA HB hb; (try clear hb); (try clear hb2); (try clear hk); (try clear hi)) | ((with_reducible refine gate_callee (f := 14) rfl ?_); refine goesT (some 26) Tryd.func14 #[.string a0] ?_; (with_reducible refine (csv_Split.calls a0 t208 t209 t210 _ A5.out).mono ?_); rintro e w62 ⟨v211, rfl, ho0, hb⟩; refine ⟨_, rfl, ?_⟩; have HO212 := Aside0.mk (Kd.S_lower ho0 (below_size (hbT HB.out))); replace HB := bsA HB hb; (try clear hb); (try clear hb2); (try clear hk); (try clear hi); (try clear ho0); obtain ⟨Ao63, co63, eo63⟩ := Kd.S_slice HO212.out; subst eo63))
            go_ret
            exact ⟨by first | rfl | (simp [errW_none, errW_some] <;> rfl) | (simp [*, errW_none, errW_some] <;> rfl), hbT HB.out⟩
        · rw [if_neg c56] at H
          have c56b0 : (t210 == 2) = false := beq_eq_false_iff_ne.mpr c56
          have c56b1 : (t210 != 2) = true := bne_iff_ne.mpr c56
          by_cases c64 : t209 < 0
          · rw [if_pos c64] at H
            have c64b0 : decide (t209 < 0) = true := decide_eq_true c64
            clear c64
            obtain rfl := Option.some.inj H
            go_enter Tryd.func6, Tryd.ntmps6
            go_wp2_with (first | ((with_reducible refine gate_callee (f := 13) rfl ?_); refine goesT (some 21) Tryd.func13 #[] ?_; (with_reducible refine (refrainlaw4_begun.calls  true _ ?side1 A3.out).mono ?_); (case side1 => first | (with_reducible exact HL_LMax) | exact ⟨LMax.below HL_LMax.out (hbT HB.out)⟩); rintro e w65 ⟨rfl, hb⟩; refine ⟨_, rfl, ?_⟩; replace HB := bsA HB hb; (try clear hb); (try clear hb2); (try clear hk); (try clear hi)) | ((with_reducible refine gate_callee (f := 14) rfl ?_); refine goesT (some 26) Tryd.func14 #[.string a0] ?_; (with_reducible refine (csv_Split.calls a0 t208 t209 t210 _ A5.out).mono ?_); rintro e w66 ⟨v211, rfl, ho0, hb⟩; refine ⟨_, rfl, ?_⟩; have HO212 := Aside0.mk (Kd.S_lower ho0 (below_size (hbT HB.out))); replace HB := bsA HB hb; (try clear hb); (try clear hb2); (try clear hk); (try clear hi); (try clear ho0); obtain ⟨Ao67, co67, eo67⟩ := Kd.S_slice HO212.out; subst eo67))
            go_ret
            exact ⟨by first | rfl | (simp [errW_none, errW_some] <;> rfl) | (simp [*, errW_none, errW_some] <;> rfl), hbT HB.out⟩
          · rw [if_neg c64] at H
            have c64b0 : decide (t209 < 0) = false := decide_eq_false c64
            clear c64
            by_cases c68 : t209 ≥ (a0.size : Int)
            · rw [if_pos c68] at H
              have c68b0 : decide ((a0.size : Int) ≤ t209) = true := decide_eq_true c68
              clear c68
              obtain rfl := Option.some.inj H
              go_enter Tryd.func6, Tryd.ntmps6
              go_wp2_with (first | ((with_reducible refine gate_callee (f := 13) rfl ?_); refine goesT (some 21) Tryd.func13 #[] ?_; (with_reducible refine (refrainlaw4_begun.calls  true _ ?side1 A3.out).mono ?_); (case side1 => first | (with_reducible exact HL_LMax) | exact ⟨LMax.below HL_LMax.out (hbT HB.out)⟩); rintro e w69 ⟨rfl, hb⟩; refine ⟨_, rfl, ?_⟩; replace HB := bsA HB hb; (try clear hb); (try clear hb2); (try clear hk); (try clear hi)) | ((with_reducible refine gate_callee (f := 14) rfl ?_); refine goesT (some 26) Tryd.func14 #[.string a0] ?_; (with_reducible refine (csv_Split.calls a0 t208 t209 t210 _ A5.out).mono ?_); rintro e w70 ⟨v211, rfl, ho0, hb⟩; refine ⟨_, rfl, ?_⟩; have HO212 := Aside0.mk (Kd.S_lower ho0 (below_size (hbT HB.out))); replace HB := bsA HB hb; (try clear hb); (try clear hb2); (try clear hk); (try clear hi); (try clear ho0); obtain ⟨Ao71, co71, eo71⟩ := Kd.S_slice HO212.out; subst eo71))
              go_ret
              exact ⟨by first | rfl | (simp [errW_none, errW_some] <;> rfl) | (simp [*, errW_none, errW_some] <;> rfl), hbT HB.out⟩
            · rw [if_neg c68] at H
              have c68b0 : decide ((a0.size : Int) ≤ t209) = false := decide_eq_false c68
              clear c68
              obtain rfl := Option.some.inj H
              go_enter Tryd.func6, Tryd.ntmps6
              go_wp2_with (first | ((with_reducible refine gate_callee (f := 13) rfl ?_); refine goesT (some 21) Tryd.func13 #[] ?_; (with_reducible refine (refrainlaw4_begun.calls  true _ ?side1 A3.out).mono ?_); (case side1 => first | (with_reducible exact HL_LMax) | exact ⟨LMax.below HL_LMax.out (hbT HB.out)⟩); rintro e w72 ⟨rfl, hb⟩; refine ⟨_, rfl, ?_⟩; replace HB := bsA HB hb; (try clear hb); (try clear hb2); (try clear hk); (try clear hi)) | ((with_reducible refine gate_callee (f := 14) rfl ?_); refine goesT (some 26) Tryd.func14 #[.string a0] ?_; (with_reducible refine (csv_Split.calls a0 t208 t209 t210 _ A5.out).mono ?_); rintro e w73 ⟨v211, rfl, ho0, hb⟩; refine ⟨_, rfl, ?_⟩; have HO212 := Aside0.mk (Kd.S_lower ho0 (below_size (hbT HB.out))); replace HB := bsA HB hb; (try clear hb); (try clear hb2); (try clear hk); (try clear hi); (try clear ho0); obtain ⟨Ao74, co74, eo74⟩ := Kd.S_slice HO212.out; subst eo74))
              go_ret
              exact ⟨by first | rfl | (simp [errW_none, errW_some] <;> rfl) | (simp [*, errW_none, errW_some] <;> rfl), hbT HB.out⟩
      · rw [if_neg c55] at H
        have c55b0 : ((t208.length : Int) == 0) = false := beq_eq_false_iff_ne.mpr c55
        have c55b1 : ((t208.length : Int) != 0) = true := bne_iff_ne.mpr c55
        have c55b2 : ¬ (t208 = []) := fun h_ => c55 (by rw [h_]; rfl)
        obtain rfl := Option.some.inj H
        go_enter Tryd.func6, Tryd.ntmps6
        go_wp2_with (first | ((with_reducible refine gate_callee (f := 13) rfl ?_); refine goesT (some 21) Tryd.func13 #[] ?_; (with_reducible refine (refrainlaw4_begun.calls  true _ ?side1 A3.out).mono ?_); (case side1 => first | (with_reducible exact HL_LMax) | exact ⟨LMax.below HL_LMax.out (hbT HB.out)⟩); rintro e w75 ⟨rfl, hb⟩; refine ⟨_, rfl, ?_⟩; replace HB := bsA HB hb; (try clear hb); (try clear hb2); (try clear hk); (try clear hi)) | ((with_reducible refine gate_callee (f := 14) rfl ?_); refine goesT (some 26) Tryd.func14 #[.string a0] ?_; (with_reducible refine (csv_Split.calls a0 t208 t209 t210 _ A5.out).mono ?_); rintro e w76 ⟨v211, rfl, ho0, hb⟩; refine ⟨_, rfl, ?_⟩; have HO212 := Aside0.mk (Kd.S_lower ho0 (below_size (hbT HB.out))); replace HB := bsA HB hb; (try clear hb); (try clear hb2); (try clear hk); (try clear hi); (try clear ho0); obtain ⟨Ao77, co77, eo77⟩ := Kd.S_slice HO212.out; subst eo77))
        go_ret
        exact ⟨by first | rfl | (simp [errW_none, errW_some] <;> rfl) | (simp [*, errW_none, errW_some] <;> rfl), hbT HB.out⟩
  · replace c4 := Bool.eq_false_iff.mpr c4
    subst c4
    have H1 : (some false) = some r := by rw [if_neg (show ¬ (false = true) by decide)] at H; exact H
    clear H
    have H := H1
    clear H1
    obtain rfl := Option.some.inj H
    go_enter Tryd.func6, Tryd.ntmps6
    go_wp2_with (first | ((with_reducible refine gate_callee (f := 13) rfl ?_); refine goesT (some 21) Tryd.func13 #[] ?_; (with_reducible refine (refrainlaw4_begun.calls  false _ ?side1 A3.out).mono ?_); (case side1 => first | (with_reducible exact HL_LMax) | exact ⟨LMax.below HL_LMax.out (hbT HB.out)⟩); rintro e w78 ⟨rfl, hb⟩; refine ⟨_, rfl, ?_⟩; replace HB := bsA HB hb; (try clear hb); (try clear hb2); (try clear hk); (try clear hi)))
    go_ret
    exact ⟨by first | rfl | (simp [errW_none, errW_some] <;> rfl) | (simp [*, errW_none, errW_some] <;> rfl), hbT HB.out⟩

/-- THE ONE PURE STATEMENT of refrainlaw4_CsvAgain: yours. -/
def refrainlaw4_CsvAgain.Pure : Prop := ∀ (a0 : ByteArray) (a1 : ByteArray), a0.size ≤ 140737488351232 → a1.size ≤ 140737488351232 → ∃ k, refrainlaw4_CsvAgain.f k a0 a1 = some true
theorem refrainlaw4_CsvAgain.walk (P : refrainlaw4_CsvAgain.Pure) (a0 : ByteArray) (a1 : ByteArray) (w : World) (w0 : a0.size ≤ 140737488351232) (w1 : a1.size ≤ 140737488351232) (HL_LMax : Aside0 (LMax w)) :
    Calls Tryd.prog 6 #[.string a0, .string a1] w fun e w' => e = .returned (.bool true) ∧ Below w.heap.size w w' := by
  obtain ⟨k, h⟩ := P a0 a1 w0 w1
  refine (refrainlaw4_CsvAgain.calls k a0 a1 true w HL_LMax h).mono ?_
  rintro e w' ⟨rfl, hd⟩
  exact ⟨rfl, hd⟩

/-! ### stringslite_HasPrefix: function 64 -/
def stringslite_HasPrefix.f (a0 : ByteArray) (a1 : ByteArray) : Option (Bool) := if (a0.size : Int) ≥ (a1.size : Int) then (if 0 ≤ (a1.size : Int) then (if (a1.size : Int) ≤ (a0.size : Int) then (some ((a0.extract 0 ((a1.size : Int) : Int).toNat).toList == a1.toList)) else (none)) else (none)) else (some false)
set_option maxHeartbeats 8000000 in
set_option maxRecDepth 100000 in
theorem stringslite_HasPrefix.calls (a0 : ByteArray) (a1 : ByteArray) (r : Bool) (w : World) (h : stringslite_HasPrefix.f a0 a1 = some r) :
    Calls Tryd.prog 64 #[.string a0, .string a1] w fun e w' => e = .returned (.bool r) ∧ Drawn0 w w' := by
  have H : (if (a0.size : Int) ≥ (a1.size : Int) then (if 0 ≤ (a1.size : Int) then (if (a1.size : Int) ≤ (a0.size : Int) then (some ((a0.extract 0 ((a1.size : Int) : Int).toNat).toList == a1.toList)) else (none)) else (none)) else (some false)) = some r := h
  clear h
  by_cases c3 : (a0.size : Int) ≥ (a1.size : Int)
  · rw [if_pos c3] at H
    have c3b0 : decide ((a1.size : Int) ≤ (a0.size : Int)) = true := decide_eq_true c3
    have c3b1 : decide (a1.size ≤ a0.size) = true := decide_eq_true (Int.ofNat_le.mp c3)
    clear c3
    by_cases c4 : 0 ≤ (a1.size : Int)
    · rw [if_pos c4] at H
      have c4b0 := eq_true c4
      have c4b1 : decide (0 ≤ (a1.size : Int)) = true := decide_eq_true c4
      clear c4
      by_cases c5 : (a1.size : Int) ≤ (a0.size : Int)
      · rw [if_pos c5] at H
        have c5b0 := eq_true c5
        have c5b1 : decide ((a1.size : Int) ≤ (a0.size : Int)) = true := decide_eq_true c5
        clear c5
        obtain rfl := Option.some.inj H
        go_enter Tryd.func64, Tryd.ntmps64
        go_wp2
        go_ret
        exact ⟨by first | rfl | (simp; done) | (simp [*]; done) | (simp; unfold wrap64; omega) | (congr 1; (try rw [Bool.eq_iff_iff]); simp [List.isEmpty_iff]; done), by repeat (first | exact Drawn0.refl _ | apply Drawn0.step)⟩
      · rw [if_neg c5] at H
        exact absurd H (by simp)
    · rw [if_neg c4] at H
      exact absurd H (by simp)
  · rw [if_neg c3] at H
    have c3b0 : decide ((a1.size : Int) ≤ (a0.size : Int)) = false := decide_eq_false c3
    have c3b1 : decide (a1.size ≤ a0.size) = false := decide_eq_false (fun h => c3 (Int.ofNat_le.mpr h))
    clear c3
    obtain rfl := Option.some.inj H
    go_enter Tryd.func64, Tryd.ntmps64
    go_wp2
    go_ret
    exact ⟨by first | rfl | (simp; done) | (simp [*]; done) | (simp; unfold wrap64; omega) | (congr 1; (try rw [Bool.eq_iff_iff]); simp [List.isEmpty_iff]; done), by repeat (first | exact Drawn0.refl _ | apply Drawn0.step)⟩

/-! ### strings_HasPrefix: function 45 -/
def strings_HasPrefix.f (a0 : ByteArray) (a1 : ByteArray) : Option (Bool) := (stringslite_HasPrefix.f a0 a1).bind fun t242 => (some t242)
set_option maxHeartbeats 8000000 in
set_option maxRecDepth 100000 in
theorem strings_HasPrefix.calls (a0 : ByteArray) (a1 : ByteArray) (r : Bool) (w : World) (h : strings_HasPrefix.f a0 a1 = some r) :
    Calls Tryd.prog 45 #[.string a0, .string a1] w fun e w' => e = .returned (.bool r) ∧ Drawn0 w w' := by
  have H : ((stringslite_HasPrefix.f a0 a1).bind fun t242 => (some t242)) = some r := h
  clear h
  replace H := Option.bind_eq_some_iff.mp H
  obtain ⟨t242, A30, H⟩ := H
  replace H : (some t242) = some r := H
  have A3 := Aside0.mk A30
  clear A30
  obtain rfl := Option.some.inj H
  go_enter Tryd.func45, Tryd.ntmps45
  go_wp2_with (first | ((with_reducible refine gate_callee (f := 64) rfl ?_); refine goesT (some 7) Tryd.func64 #[.string a0, .string a1] ?_; (with_reducible refine (stringslite_HasPrefix.calls a0 a1 t242 _ A3.out).mono ?_); rintro e w' ⟨rfl, ⟨nd, rfl⟩⟩; refine ⟨_, rfl, ?_⟩))
  go_ret
  exact ⟨by first | rfl | (simp; done) | (simp [*]; done) | (simp; unfold wrap64; omega) | (congr 1; (try rw [Bool.eq_iff_iff]); simp [List.isEmpty_iff]; done), by repeat (first | exact Drawn0.refl _ | apply Drawn0.step)⟩

end Go.Proofs.YthmcapdakplhdaaDoor.Pr

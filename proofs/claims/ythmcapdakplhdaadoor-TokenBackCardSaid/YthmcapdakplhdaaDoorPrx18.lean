-- printed by a patched copy of the kit's print, for this seat
import Derived.Test.YthmcapdakplhdaaDoorPrx0
import Derived.Test.YthmcapdakplhdaaDoorPrx11
import Derived.Test.YthmcapdakplhdaaDoorPrx14
import Derived.Test.YthmcapdakplhdaaDoorPrx17
import Derived.Test.YthmcapdakplhdaaDoorExtTok3
namespace Go.Proofs.YthmcapdakplhdaaDoor.Pr
open Go.RowKit Go.Proofs.YthmcapdakplhdaaDoorW.PrintWords Go.Proofs.YthmcapdakplhdaaDoorW.PrintLast Go.Proofs.YthmcapdakplhdaaDoorW.PrintMore
attribute [local go_sem] max2_int min2_int max_two min_two max_three min_three max_four min_four   -- for this text's walks alone
attribute [local go_sem high] Go.Proofs.YthmcapdakplhdaaDoor.isSome_setCell
set_option maxRecDepth 100000
set_option linter.unusedVariables false
set_option linter.unusedSimpArgs false

/-! ### refrainlaw5_TokenBack: function 9 -/
mutual
def refrainlaw5_TokenBack.j1 : Nat → List (S44) → Option (Bool)
  | 0, _ => none
  | k + 1, x3 => (token_Spell.f x3).bind fun bt442 => ((token_Scan.f k bt442.1).bind fun bt444 => (if bt442.2 = 0 then (if bt444.2.2 = 0 then (if bt444.2.1 = 0 then ((refrainlaw5_alike.f k x3 bt444.1).bind fun t449 => (refrainlaw5_TokenBack.j2 k bt442.1 bt444.1 (!t449))) else (refrainlaw5_TokenBack.j2 k bt442.1 bt444.1 true)) else (refrainlaw5_TokenBack.j2 k bt442.1 bt444.1 true)) else (refrainlaw5_TokenBack.j2 k bt442.1 bt444.1 true)))
def refrainlaw5_TokenBack.j2 : Nat → ByteArray → List (S44) → Bool → Option (Bool)
  | 0, _, _, _ => none
  | k + 1, x6, x8, x59 => if x59 = true then (some false) else (refrainlaw5_TokenBack.l1 k x6 x8 (-1) 0)
def refrainlaw5_TokenBack.l1 : Nat → ByteArray → List (S44) → Int → Int → Option (Bool)
  | 0, _, _, _, _ => none
  | k + 1, x6, x8, x11, x12 => if x12 < (x8.length : Int) then (if 0 ≤ x12 then (if ((rd_T44 x8 x12).f2) < 0 then (refrainlaw5_TokenBack.j4 k x6 x8 x12 true ((rd_T44 x8 x12).f0) ((rd_T44 x8 x12).f1) ((rd_T44 x8 x12).f2)) else (if ((rd_T44 x8 x12).f2) > (x6.size : Int) then (refrainlaw5_TokenBack.j4 k x6 x8 x12 true ((rd_T44 x8 x12).f0) ((rd_T44 x8 x12).f1) ((rd_T44 x8 x12).f2)) else (if ((rd_T44 x8 x12).f2) ≤ x11 then (refrainlaw5_TokenBack.j4 k x6 x8 x12 (decide (x12 > 0)) ((rd_T44 x8 x12).f0) ((rd_T44 x8 x12).f1) ((rd_T44 x8 x12).f2)) else (refrainlaw5_TokenBack.j4 k x6 x8 x12 false ((rd_T44 x8 x12).f0) ((rd_T44 x8 x12).f1) ((rd_T44 x8 x12).f2))))) else (none)) else (if 0 ≤ (wrap64 ((x8.length : Int) - 1)) then (if (wrap64 ((x8.length : Int) - 1)) < (x8.length : Int) then (some (((rd_T44 x8 (wrap64 ((x8.length : Int) - 1))).f2) == (x6.size : Int))) else (none)) else (none))
def refrainlaw5_TokenBack.j4 : Nat → ByteArray → List (S44) → Int → Bool → Int → ByteArray → Int → Option (Bool)
  | 0, _, _, _, _, _, _, _ => none
  | k + 1, x6, x8, x12, x89, x453000, x453001, x453002 => if x89 = true then (some false) else (if x453000 = 1 then (if (wrap64 (x453002 + (x453001.size : Int))) > (x6.size : Int) then (some false) else (if 0 ≤ x453002 then (if x453002 ≤ (wrap64 (x453002 + (x453001.size : Int))) then (if (wrap64 (x453002 + (x453001.size : Int))) ≤ (x6.size : Int) then (if (x6.extract (x453002 : Int).toNat ((wrap64 (x453002 + (x453001.size : Int))) : Int).toNat).toList = x453001.toList then (refrainlaw5_TokenBack.l1 k x6 x8 x453002 (wrap64 (x12 + 1))) else (some false)) else (none)) else (none)) else (none))) else (if x453000 = 2 then (if (wrap64 (x453002 + (x453001.size : Int))) > (x6.size : Int) then (some false) else (if 0 ≤ x453002 then (if x453002 ≤ (wrap64 (x453002 + (x453001.size : Int))) then (if (wrap64 (x453002 + (x453001.size : Int))) ≤ (x6.size : Int) then (if (x6.extract (x453002 : Int).toNat ((wrap64 (x453002 + (x453001.size : Int))) : Int).toNat).toList = x453001.toList then (refrainlaw5_TokenBack.l1 k x6 x8 x453002 (wrap64 (x12 + 1))) else (some false)) else (none)) else (none)) else (none))) else (if x453000 = 4 then (if (wrap64 (x453002 + (x453001.size : Int))) > (x6.size : Int) then (some false) else (if 0 ≤ x453002 then (if x453002 ≤ (wrap64 (x453002 + (x453001.size : Int))) then (if (wrap64 (x453002 + (x453001.size : Int))) ≤ (x6.size : Int) then (if (x6.extract (x453002 : Int).toNat ((wrap64 (x453002 + (x453001.size : Int))) : Int).toNat).toList = x453001.toList then (refrainlaw5_TokenBack.l1 k x6 x8 x453002 (wrap64 (x12 + 1))) else (some false)) else (none)) else (none)) else (none))) else (refrainlaw5_TokenBack.l1 k x6 x8 x453002 (wrap64 (x12 + 1))))))
def refrainlaw5_TokenBack.l0 : Nat → List (S44) → List (S44) → Int → Option (Bool)
  | 0, _, _, _ => none
  | k + 1, x0, x3, x4 => if x4 < (x0.length : Int) then (if x4 < 4 then (if 0 ≤ x4 then ((refrainlaw5_plainest.f k ((rd_T44 x0 x4).f0) ((rd_T44 x0 x4).f1) ((rd_T44 x0 x4).f2)).bind fun bt435 => (if x3.length < 4398046511104 then (refrainlaw5_TokenBack.l0 k x0 (x3 ++ [(⟨bt435.1, bt435.2.1, bt435.2.2⟩ : S44)]) (wrap64 (x4 + 1))) else (none))) else (none)) else (refrainlaw5_TokenBack.j1 k x3)) else (refrainlaw5_TokenBack.j1 k x3)
end
def refrainlaw5_TokenBack.f (k : Nat) (l0 : List (S44)) : Option (Bool) := refrainlaw5_TokenBack.l0 k l0 ([] : List (S44)) 0
set_option maxRecDepth 100000 in
theorem refrainlaw5_TokenBack.j1_zero : ∀ y0, refrainlaw5_TokenBack.j1 0 y0 = none := fun _ => rfl
set_option maxRecDepth 100000 in
theorem refrainlaw5_TokenBack.j2_zero : ∀ y0 y1 y2, refrainlaw5_TokenBack.j2 0 y0 y1 y2 = none := fun _ _ _ => rfl
set_option maxRecDepth 100000 in
theorem refrainlaw5_TokenBack.l1_zero : ∀ y0 y1 y2 y3, refrainlaw5_TokenBack.l1 0 y0 y1 y2 y3 = none := fun _ _ _ _ => rfl
set_option maxRecDepth 100000 in
theorem refrainlaw5_TokenBack.j4_zero : ∀ y0 y1 y2 y3 y4 y5 y6, refrainlaw5_TokenBack.j4 0 y0 y1 y2 y3 y4 y5 y6 = none := fun _ _ _ _ _ _ _ => rfl
set_option maxRecDepth 100000 in
theorem refrainlaw5_TokenBack.l0_zero : ∀ y0 y1 y2, refrainlaw5_TokenBack.l0 0 y0 y1 y2 = none := fun _ _ _ => rfl
set_option maxRecDepth 100000 in
theorem refrainlaw5_TokenBack.mono_l : ∀ k, (∀ y0, LeO (refrainlaw5_TokenBack.j1 k y0) (refrainlaw5_TokenBack.j1 (k + 1) y0)) ∧ (∀ y0 y1 y2, LeO (refrainlaw5_TokenBack.j2 k y0 y1 y2) (refrainlaw5_TokenBack.j2 (k + 1) y0 y1 y2)) ∧ (∀ y0 y1 y2 y3, LeO (refrainlaw5_TokenBack.l1 k y0 y1 y2 y3) (refrainlaw5_TokenBack.l1 (k + 1) y0 y1 y2 y3)) ∧ (∀ y0 y1 y2 y3 y4 y5 y6, LeO (refrainlaw5_TokenBack.j4 k y0 y1 y2 y3 y4 y5 y6) (refrainlaw5_TokenBack.j4 (k + 1) y0 y1 y2 y3 y4 y5 y6)) ∧ (∀ y0 y1 y2, LeO (refrainlaw5_TokenBack.l0 k y0 y1 y2) (refrainlaw5_TokenBack.l0 (k + 1) y0 y1 y2))
  | 0 => ⟨fun _ r h => by (unfold refrainlaw5_TokenBack.j1 at h; cases h), fun _ _ _ r h => by (unfold refrainlaw5_TokenBack.j2 at h; cases h), fun _ _ _ _ r h => by (unfold refrainlaw5_TokenBack.l1 at h; cases h), fun _ _ _ _ _ _ _ r h => by (unfold refrainlaw5_TokenBack.j4 at h; cases h), fun _ _ _ r h => by (unfold refrainlaw5_TokenBack.l0 at h; cases h)⟩
  | k + 1 => by
    obtain ⟨ih0, ih1, ih2, ih3, ih4⟩ := refrainlaw5_TokenBack.mono_l k
    refine ⟨?_, ?_, ?_, ?_, ?_⟩
    · intro y0
      unfold refrainlaw5_TokenBack.j1
      repeat' first
      | (with_reducible exact ih0 _)
      | (with_reducible exact ih1 _ _ _)
      | (with_reducible exact ih2 _ _ _ _)
      | (with_reducible exact ih3 _ _ _ _ _ _ _)
      | (with_reducible exact ih4 _ _ _)
      | (with_reducible exact refrainlaw5_alike.mono _ _ _)
      | (with_reducible exact refrainlaw5_plainest.mono _ _ _ _)
      | (with_reducible exact token_Scan.mono _ _)
      | (with_reducible exact LeO.refl _)
      | (with_reducible exact LeO.none _)
      | (with_reducible refine LeO.ite ?_ ?_)
      | (with_reducible refine LeO.bind ?_ (fun _ => ?_))
      | exact ih0 _
      | exact ih1 _ _ _
      | exact ih2 _ _ _ _
      | exact ih3 _ _ _ _ _ _ _
      | exact ih4 _ _ _
      | exact refrainlaw5_alike.mono _ _ _
      | exact refrainlaw5_plainest.mono _ _ _ _
      | exact token_Scan.mono _ _
      | exact LeO.none _
      | refine LeO.ite ?_ ?_
      | refine LeO.bind ?_ (fun _ => ?_)
    · intro y0 y1 y2
      unfold refrainlaw5_TokenBack.j2
      repeat' first
      | (with_reducible exact ih0 _)
      | (with_reducible exact ih1 _ _ _)
      | (with_reducible exact ih2 _ _ _ _)
      | (with_reducible exact ih3 _ _ _ _ _ _ _)
      | (with_reducible exact ih4 _ _ _)
      | (with_reducible exact refrainlaw5_alike.mono _ _ _)
      | (with_reducible exact refrainlaw5_plainest.mono _ _ _ _)
      | (with_reducible exact token_Scan.mono _ _)
      | (with_reducible exact LeO.refl _)
      | (with_reducible exact LeO.none _)
      | (with_reducible refine LeO.ite ?_ ?_)
      | (with_reducible refine LeO.bind ?_ (fun _ => ?_))
      | exact ih0 _
      | exact ih1 _ _ _
      | exact ih2 _ _ _ _
      | exact ih3 _ _ _ _ _ _ _
      | exact ih4 _ _ _
      | exact refrainlaw5_alike.mono _ _ _
      | exact refrainlaw5_plainest.mono _ _ _ _
      | exact token_Scan.mono _ _
      | exact LeO.none _
      | refine LeO.ite ?_ ?_
      | refine LeO.bind ?_ (fun _ => ?_)
    · intro y0 y1 y2 y3
      unfold refrainlaw5_TokenBack.l1
      repeat' first
      | (with_reducible exact ih0 _)
      | (with_reducible exact ih1 _ _ _)
      | (with_reducible exact ih2 _ _ _ _)
      | (with_reducible exact ih3 _ _ _ _ _ _ _)
      | (with_reducible exact ih4 _ _ _)
      | (with_reducible exact refrainlaw5_alike.mono _ _ _)
      | (with_reducible exact refrainlaw5_plainest.mono _ _ _ _)
      | (with_reducible exact token_Scan.mono _ _)
      | (with_reducible exact LeO.refl _)
      | (with_reducible exact LeO.none _)
      | (with_reducible refine LeO.ite ?_ ?_)
      | (with_reducible refine LeO.bind ?_ (fun _ => ?_))
      | exact ih0 _
      | exact ih1 _ _ _
      | exact ih2 _ _ _ _
      | exact ih3 _ _ _ _ _ _ _
      | exact ih4 _ _ _
      | exact refrainlaw5_alike.mono _ _ _
      | exact refrainlaw5_plainest.mono _ _ _ _
      | exact token_Scan.mono _ _
      | exact LeO.none _
      | refine LeO.ite ?_ ?_
      | refine LeO.bind ?_ (fun _ => ?_)
    · intro y0 y1 y2 y3 y4 y5 y6
      unfold refrainlaw5_TokenBack.j4
      repeat' first
      | (with_reducible exact ih0 _)
      | (with_reducible exact ih1 _ _ _)
      | (with_reducible exact ih2 _ _ _ _)
      | (with_reducible exact ih3 _ _ _ _ _ _ _)
      | (with_reducible exact ih4 _ _ _)
      | (with_reducible exact refrainlaw5_alike.mono _ _ _)
      | (with_reducible exact refrainlaw5_plainest.mono _ _ _ _)
      | (with_reducible exact token_Scan.mono _ _)
      | (with_reducible exact LeO.refl _)
      | (with_reducible exact LeO.none _)
      | (with_reducible refine LeO.ite ?_ ?_)
      | (with_reducible refine LeO.bind ?_ (fun _ => ?_))
      | exact ih0 _
      | exact ih1 _ _ _
      | exact ih2 _ _ _ _
      | exact ih3 _ _ _ _ _ _ _
      | exact ih4 _ _ _
      | exact refrainlaw5_alike.mono _ _ _
      | exact refrainlaw5_plainest.mono _ _ _ _
      | exact token_Scan.mono _ _
      | exact LeO.none _
      | refine LeO.ite ?_ ?_
      | refine LeO.bind ?_ (fun _ => ?_)
    · intro y0 y1 y2
      unfold refrainlaw5_TokenBack.l0
      repeat' first
      | (with_reducible exact ih0 _)
      | (with_reducible exact ih1 _ _ _)
      | (with_reducible exact ih2 _ _ _ _)
      | (with_reducible exact ih3 _ _ _ _ _ _ _)
      | (with_reducible exact ih4 _ _ _)
      | (with_reducible exact refrainlaw5_alike.mono _ _ _)
      | (with_reducible exact refrainlaw5_plainest.mono _ _ _ _)
      | (with_reducible exact token_Scan.mono _ _)
      | (with_reducible exact LeO.refl _)
      | (with_reducible exact LeO.none _)
      | (with_reducible refine LeO.ite ?_ ?_)
      | (with_reducible refine LeO.bind ?_ (fun _ => ?_))
      | exact ih0 _
      | exact ih1 _ _ _
      | exact ih2 _ _ _ _
      | exact ih3 _ _ _ _ _ _ _
      | exact ih4 _ _ _
      | exact refrainlaw5_alike.mono _ _ _
      | exact refrainlaw5_plainest.mono _ _ _ _
      | exact token_Scan.mono _ _
      | exact LeO.none _
      | refine LeO.ite ?_ ?_
      | refine LeO.bind ?_ (fun _ => ?_)
set_option maxRecDepth 100000 in
theorem refrainlaw5_TokenBack.mono : ∀ a0 k, LeO (refrainlaw5_TokenBack.f k a0) (refrainlaw5_TokenBack.f (k + 1) a0) := by
  intro a0 k
  obtain ⟨ih0, ih1, ih2, ih3, ih4⟩ := refrainlaw5_TokenBack.mono_l k
  unfold refrainlaw5_TokenBack.f
  repeat' first
      | (with_reducible exact ih0 _)
      | (with_reducible exact ih1 _ _ _)
      | (with_reducible exact ih2 _ _ _ _)
      | (with_reducible exact ih3 _ _ _ _ _ _ _)
      | (with_reducible exact ih4 _ _ _)
      | (with_reducible exact refrainlaw5_alike.mono _ _ _)
      | (with_reducible exact refrainlaw5_plainest.mono _ _ _ _)
      | (with_reducible exact token_Scan.mono _ _)
      | (with_reducible exact LeO.refl _)
      | (with_reducible exact LeO.none _)
      | (with_reducible refine LeO.ite ?_ ?_)
      | (with_reducible refine LeO.bind ?_ (fun _ => ?_))
      | exact ih0 _
      | exact ih1 _ _ _
      | exact ih2 _ _ _ _
      | exact ih3 _ _ _ _ _ _ _
      | exact ih4 _ _ _
      | exact refrainlaw5_alike.mono _ _ _
      | exact refrainlaw5_plainest.mono _ _ _ _
      | exact token_Scan.mono _ _
      | exact LeO.none _
      | refine LeO.ite ?_ ?_
      | refine LeO.bind ?_ (fun _ => ?_)
set_option maxHeartbeats 8000000 in
set_option maxRecDepth 100000 in
theorem refrainlaw5_TokenBack.calls (k : Nat) (A0 : Option Addr) (c0 : Nat) (l0 : List (S44)) (r : Bool) (w : World) (hr0 : Kd.C k44 w A0 l0.length l0) (hc0 : l0.length ≤ c0) (HL_LErr : Aside0 (LErr w)) (h : refrainlaw5_TokenBack.f k l0 = some r) :
    Calls Tryd.prog 9 #[.slice A0 l0.length c0] w fun e w' => e = .returned (.bool r) ∧ Below w.heap.size w w' := by
  have hu44 := Tryd.underlying44
  have HR0 := Aside0.mk hr0
  have HC0 := Aside0.mk hc0
  clear hr0 hc0
  have HB := Aside0.mk (Below.refl w.heap.size w)
  have H : (refrainlaw5_TokenBack.l0 k l0 ([] : List (S44)) 0) = some r := h
  clear h
  have HC2 := Aside0.mk H
  clear H
  go_enter Tryd.func9, Tryd.ntmps9
  go_upto_block 0 with (fail)
  repeat (go_quiet (fail); go_upto_block 0 with (fail))
  go_cut [3] (fun v3 wc => ∃ (kq : Nat) (x3_1 : List (S44)), Aside0 (refrainlaw5_TokenBack.j1 kq x3_1 = some r) ∧ Aside0 (kq ≤ k) ∧ Aside0 (Kd.R k44 44 wc w.heap.size (fun _ => True) v3 x3_1) ∧ Aside0 (Below w.heap.size w wc))
  case first =>
    have H := HC2.out
    clear HC2
    have H' := Aside0.mk H
    clear H
    go_wp2
    repeat (go_quiet (fail); try go_wp2)
    go_loopg [3, 4] k (fun kq v3 v4 w' => ∃ (x3_1 : List (S44)) (x4_1 : Int), v4 = .int .i64 x4_1 ∧ Aside0 (refrainlaw5_TokenBack.l0 kq l0 x3_1 x4_1 = some r) ∧ Aside0 (kq ≤ k) ∧ Aside0 (Kd.R k44 44 w' w.heap.size (fun _ => True) v3 x3_1) ∧ Aside0 (Below w.heap.size w w'))
    case atStart => exact ⟨(([] : List (S44))), (0), (by first | rfl | (simp; done) | (simp [*]; done) | (simp; unfold wrap64; omega) | (congr 1; (try rw [Bool.eq_iff_iff]); simp [List.isEmpty_iff]; done)), H', ⟨Nat.le_refl _⟩, ⟨by first | exact Kd.R_nil _ _ _ _ _ | exact Kd.N_nil _ _ _ _ _ | exact Kd.V_nil _ _ _ _ _ | exact Kd.Q_nil _ _ _ _ _ | exact Kd.S_nil _ _ _ _ _⟩, ⟨hbT HB.out⟩⟩
    case round =>
      clear H'
      try clear p2
      obtain ⟨x3_1, x4_1, rfl, HA, HK1, HO_3, HB⟩ := hrel
      cases gk with
      | zero => (have HA2 := HA.out; clear HA; revert HA2; rw [refrainlaw5_TokenBack.l0_zero]; intro h_; cases h_)
      | succ k1 =>
        have H := HA.out
        clear HA
        simp only [refrainlaw5_TokenBack.l0] at H
        by_cases c3 : x4_1 < (l0.length : Int)
        · rw [if_pos c3] at H
          have c3b0 : decide (x4_1 < (l0.length : Int)) = true := decide_eq_true c3
          clear c3
          (first | rw [c3b0] | (simp only [i64_w, i32_w, IntKind.wrap_u8, IntKind.wrap_u16, IntKind.wrap_u32]; rw [c3b0]) | skip)
          by_cases c4 : x4_1 < 4
          · rw [if_pos c4] at H
            have c4b0 : decide (x4_1 < 4) = true := decide_eq_true c4
            clear c4
            by_cases c5 : 0 ≤ x4_1
            · rw [if_pos c5] at H
              have c5b0 : decide (0 ≤ x4_1) = true := decide_eq_true c5
              clear c5
              replace H := Option.bind_eq_some_iff.mp H
              obtain ⟨⟨t435, t436, t437⟩, A60, H⟩ := H
              replace H : (if x3_1.length < 4398046511104 then (refrainlaw5_TokenBack.l0 k1 l0 (x3_1 ++ [(⟨t435, t436, t437⟩ : S44)]) (wrap64 (x4_1 + 1))) else (none)) = some r := H
              have A6 := Aside0.mk A60
              clear A60
              by_cases c7 : x3_1.length < 4398046511104
              · rw [if_pos c7] at H
                have LMc7 := Aside0.mk c7
                clear c7
                obtain ⟨y439, hy439⟩ : ∃ y_ : List (S44), y_ = (x3_1 ++ [(⟨t435, t436, t437⟩ : S44)]) := ⟨_, rfl⟩
                replace H : (refrainlaw5_TokenBack.l0 k1 l0 y439 (wrap64 (x4_1 + 1))) = some r := by first | (rw [hy439]; with_reducible exact H) | (have H2_ := (Option.bind_some _ _).symm.trans H; rw [hy439]; with_reducible exact H2_) | (have H2_ := (Option.bind_some _ _).symm.trans H; with_reducible exact H2_) | with_reducible exact H | (rw [hy439]; exact H) | exact H
                have Ny439 := Aside0.mk hy439
                clear hy439
                have H' := Aside0.mk H
                clear H
                have p434 : 0 ≤ (x4_1 : Int) := of_decide_eq_true (by first | (with_reducible assumption) | assumption)
                have q434 : x4_1 < (l0.length : Int) := of_decide_eq_true (by first | (with_reducible assumption) | assumption)
                obtain ⟨ad434, e434, hx434_0, hx434_1, hx434_2⟩ := at_T44 HR0.out x4_1 p434 q434
                cases e434
                replace hx434_0 := (HB.out.cell (World.block_lt_of_cell? w _ hx434_0)).trans hx434_0; replace hx434_1 := (HB.out.cell (World.block_lt_of_cell? w _ hx434_1)).trans hx434_1; replace hx434_2 := (HB.out.cell (World.block_lt_of_cell? w _ hx434_2)).trans hx434_2
                replace p434 := eq_true p434
                replace q434 := eq_true q434
                go_wp2_with (first | (go_at_call 22; (with_reducible refine (refrainlaw5_plainest.calls k1 ((rd_T44 l0 x4_1).f0) ((rd_T44 l0 x4_1).f1) ((rd_T44 l0 x4_1).f2) t435 t436 t437 _ A6.out).mono ?_); rintro e w8 ⟨rfl, hb⟩; replace HO_3 := Aside0.mk (Kd.R_below (by (with_reducible repeat (first | apply Kd.R_alloc | apply Kd.R_drewN | apply Kd.R_drew)); exact HO_3.out) hb); replace HB := bsA HB hb; (try clear hb); (try clear hb2); (try clear hk); (try clear hi)) | ((with_reducible refine gate_dst (N := 5) rfl ?_); (try (refine gate_guard (by rfl) ?_; dsimp only)); refine box_event ?hg (N := 5) ?hd (cs := #[.int .i64 0, .string (⟨#[]⟩ : ByteArray), .int .i64 0]) (t := 44) ?hr ?_; (case hd => rfl); (case hg => rfl); (case hr => first | (go_simp; done) | (go_simp; rfl)); intro gb438 hg w9 hbox hb; have BK438 := Aside0.mk hbox; have GW438 := geA hg HB; have GE438 := geA hg HB; replace HO_3 := Aside0.mk (Kd.R_below (Kd.R_elderB (by (with_reducible repeat (first | apply Kd.R_alloc | apply Kd.R_drewN | apply Kd.R_drew)); exact HO_3.out) gb438 (Nat.le_of_eq hg.symm)) hb); replace HB := bsA HB hb; clear hb hbox hg; have hcz10_0 : w9.cell? ⟨gb438, 0, none⟩ = some (.int .i64 0) := (blk_cell BK438.out 0).trans rfl; have hcz10_1 : w9.cell? ⟨gb438, 1, none⟩ = some (.string (⟨#[]⟩ : ByteArray)) := (blk_cell BK438.out 1).trans rfl; have hcz10_2 : w9.cell? ⟨gb438, 2, none⟩ = some (.int .i64 0) := (blk_cell BK438.out 2).trans rfl; have hfz10_0 := blk_frozen BK438.out 0; have hfz10_1 := blk_frozen BK438.out 1; have hfz10_2 := blk_frozen BK438.out 2) | ((with_reducible refine gate_builtin (b := .append) (xs := #[.tmp 29, .tmp 31]) rfl ?_); (try (refine gate_guard (by rfl) ?_; dsimp only)); at_builtin; refine Kd.R_append k44 (w0 := w) w.heap.size rfl (.tmp 29) (.tmp 31) 40 44 (.agg #[(.int .i64 0), (.string ⟨#[]⟩), (.int .i64 0)]) 32 rfl Tryd.underlying40 info44 rfl (by decide) (by omega) u3 x3_1 (⟨t435, t436, t437⟩ : S44) [.int .i64 t435, .string t436, .int .i64 t437] (fun k_ => k_ ≠ gb438) (fun _ => False) rfl (by first | (go_simp; done) | (go_simp; rfl)) ?aP (fun _ hk => hk.elim) ?aF ?aO ?aB ?aS ?aL ?_; (case aP => exact k44_mkM _ _ _ (⟨t435, t436, t437⟩ : S44)); (case aB => exact (hbT HB.out)); (case aF => exact (fun k_ hk => Kd.freshB (g := gb438) (o := .cells #[.int .i64 t435, .string t436, .int .i64 t437] 44 (0, 0)) (by (with_reducible repeat (first | refine blk_drewN ?_ _ | refine blk_drew ?_ | refine blk_alloc ?_ _)); refine blk_put (cs := #[.int .i64 t435, .string t436, .int .i64 0]) ?_ 2 _ rfl; (with_reducible repeat (first | refine blk_drewN ?_ _ | refine blk_drew ?_ | refine blk_alloc ?_ _)); refine blk_put (cs := #[.int .i64 t435, .string (⟨#[]⟩ : ByteArray), .int .i64 0]) ?_ 1 _ rfl; (with_reducible repeat (first | refine blk_drewN ?_ _ | refine blk_drew ?_ | refine blk_alloc ?_ _)); refine blk_put (cs := #[.int .i64 0, .string (⟨#[]⟩ : ByteArray), .int .i64 0]) ?_ 0 _ rfl; (with_reducible repeat (first | refine blk_drewN ?_ _ | refine blk_drew ?_ | refine blk_alloc ?_ _)); exact BK438.out) k_ hk)); (case aO => exact (by (with_reducible repeat (first | apply Kd.R_alloc | apply Kd.R_drewN | apply Kd.R_drew)); exact Kd.R_mono (Kd.R_far (p := ⟨gb438, 2, none⟩) (Kd.R_far (p := ⟨gb438, 1, none⟩) (Kd.R_far (p := ⟨gb438, 0, none⟩) (Kd.R_mono HO_3.out (fun k_ hk => (⟨hk, hk.2⟩ : _ ∧ k_ ≠ gb438))) (fun _ hk => hk.2) (.int .i64 t435)) (fun _ hk => hk.2) (.string t436)) (fun _ hk => hk.2) (.int .i64 t437)) (fun _ hk => hk.1.2))); (case aS => exact (below_size (hbT HB.out))); (case aL => have := LMc7.out; omega); intro v440 w11 ho hb hg hat; rw [← Ny439.out] at ho; have n0_ := Aside0.mk (blk_grown (g := gb438) (o := .cells #[.int .i64 t435, .string t436, .int .i64 t437] 44 (0, 0)) (by (with_reducible repeat (first | refine blk_drewN ?_ _ | refine blk_drew ?_ | refine blk_alloc ?_ _)); refine blk_put (cs := #[.int .i64 t435, .string t436, .int .i64 0]) ?_ 2 _ rfl; (with_reducible repeat (first | refine blk_drewN ?_ _ | refine blk_drew ?_ | refine blk_alloc ?_ _)); refine blk_put (cs := #[.int .i64 t435, .string (⟨#[]⟩ : ByteArray), .int .i64 0]) ?_ 1 _ rfl; (with_reducible repeat (first | refine blk_drewN ?_ _ | refine blk_drew ?_ | refine blk_alloc ?_ _)); refine blk_put (cs := #[.int .i64 0, .string (⟨#[]⟩ : ByteArray), .int .i64 0]) ?_ 0 _ rfl; (with_reducible repeat (first | refine blk_drewN ?_ _ | refine blk_drew ?_ | refine blk_alloc ?_ _)); exact BK438.out) hg (Kd.R_away HO_3.out (fun _ hk => hk.2))); have n1_ := Aside0.mk (hb); have n2_ := Aside0.mk (ho); clear BK438; clear HB; clear HO_3; have BK438 := n0_; have HB := n1_; have HO441 := n2_; clear n0_ n1_ n2_; clear ho hb hg hat))
                repeat (go_quiet (first | (go_at_call 22; (with_reducible refine (refrainlaw5_plainest.calls k1 ((rd_T44 l0 x4_1).f0) ((rd_T44 l0 x4_1).f1) ((rd_T44 l0 x4_1).f2) t435 t436 t437 _ A6.out).mono ?_); rintro e w8 ⟨rfl, hb⟩; replace HO_3 := Aside0.mk (Kd.R_below (by (with_reducible repeat (first | apply Kd.R_alloc | apply Kd.R_drewN | apply Kd.R_drew)); exact HO_3.out) hb); replace HB := bsA HB hb; (try clear hb); (try clear hb2); (try clear hk); (try clear hi)) | ((with_reducible refine gate_dst (N := 5) rfl ?_); (try (refine gate_guard (by rfl) ?_; dsimp only)); refine box_event ?hg (N := 5) ?hd (cs := #[.int .i64 0, .string (⟨#[]⟩ : ByteArray), .int .i64 0]) (t := 44) ?hr ?_; (case hd => rfl); (case hg => rfl); (case hr => first | (go_simp; done) | (go_simp; rfl)); intro gb438 hg w9 hbox hb; have BK438 := Aside0.mk hbox; have GW438 := geA hg HB; have GE438 := geA hg HB; replace HO_3 := Aside0.mk (Kd.R_below (Kd.R_elderB (by (with_reducible repeat (first | apply Kd.R_alloc | apply Kd.R_drewN | apply Kd.R_drew)); exact HO_3.out) gb438 (Nat.le_of_eq hg.symm)) hb); replace HB := bsA HB hb; clear hb hbox hg; have hcz10_0 : w9.cell? ⟨gb438, 0, none⟩ = some (.int .i64 0) := (blk_cell BK438.out 0).trans rfl; have hcz10_1 : w9.cell? ⟨gb438, 1, none⟩ = some (.string (⟨#[]⟩ : ByteArray)) := (blk_cell BK438.out 1).trans rfl; have hcz10_2 : w9.cell? ⟨gb438, 2, none⟩ = some (.int .i64 0) := (blk_cell BK438.out 2).trans rfl; have hfz10_0 := blk_frozen BK438.out 0; have hfz10_1 := blk_frozen BK438.out 1; have hfz10_2 := blk_frozen BK438.out 2) | ((with_reducible refine gate_builtin (b := .append) (xs := #[.tmp 29, .tmp 31]) rfl ?_); (try (refine gate_guard (by rfl) ?_; dsimp only)); at_builtin; refine Kd.R_append k44 (w0 := w) w.heap.size rfl (.tmp 29) (.tmp 31) 40 44 (.agg #[(.int .i64 0), (.string ⟨#[]⟩), (.int .i64 0)]) 32 rfl Tryd.underlying40 info44 rfl (by decide) (by omega) u3 x3_1 (⟨t435, t436, t437⟩ : S44) [.int .i64 t435, .string t436, .int .i64 t437] (fun k_ => k_ ≠ gb438) (fun _ => False) rfl (by first | (go_simp; done) | (go_simp; rfl)) ?aP (fun _ hk => hk.elim) ?aF ?aO ?aB ?aS ?aL ?_; (case aP => exact k44_mkM _ _ _ (⟨t435, t436, t437⟩ : S44)); (case aB => exact (hbT HB.out)); (case aF => exact (fun k_ hk => Kd.freshB (g := gb438) (o := .cells #[.int .i64 t435, .string t436, .int .i64 t437] 44 (0, 0)) (by (with_reducible repeat (first | refine blk_drewN ?_ _ | refine blk_drew ?_ | refine blk_alloc ?_ _)); refine blk_put (cs := #[.int .i64 t435, .string t436, .int .i64 0]) ?_ 2 _ rfl; (with_reducible repeat (first | refine blk_drewN ?_ _ | refine blk_drew ?_ | refine blk_alloc ?_ _)); refine blk_put (cs := #[.int .i64 t435, .string (⟨#[]⟩ : ByteArray), .int .i64 0]) ?_ 1 _ rfl; (with_reducible repeat (first | refine blk_drewN ?_ _ | refine blk_drew ?_ | refine blk_alloc ?_ _)); refine blk_put (cs := #[.int .i64 0, .string (⟨#[]⟩ : ByteArray), .int .i64 0]) ?_ 0 _ rfl; (with_reducible repeat (first | refine blk_drewN ?_ _ | refine blk_drew ?_ | refine blk_alloc ?_ _)); exact BK438.out) k_ hk)); (case aO => exact (by (with_reducible repeat (first | apply Kd.R_alloc | apply Kd.R_drewN | apply Kd.R_drew)); exact Kd.R_mono (Kd.R_far (p := ⟨gb438, 2, none⟩) (Kd.R_far (p := ⟨gb438, 1, none⟩) (Kd.R_far (p := ⟨gb438, 0, none⟩) (Kd.R_mono HO_3.out (fun k_ hk => (⟨hk, hk.2⟩ : _ ∧ k_ ≠ gb438))) (fun _ hk => hk.2) (.int .i64 t435)) (fun _ hk => hk.2) (.string t436)) (fun _ hk => hk.2) (.int .i64 t437)) (fun _ hk => hk.1.2))); (case aS => exact (below_size (hbT HB.out))); (case aL => have := LMc7.out; omega); intro v440 w11 ho hb hg hat; rw [← Ny439.out] at ho; have n0_ := Aside0.mk (blk_grown (g := gb438) (o := .cells #[.int .i64 t435, .string t436, .int .i64 t437] 44 (0, 0)) (by (with_reducible repeat (first | refine blk_drewN ?_ _ | refine blk_drew ?_ | refine blk_alloc ?_ _)); refine blk_put (cs := #[.int .i64 t435, .string t436, .int .i64 0]) ?_ 2 _ rfl; (with_reducible repeat (first | refine blk_drewN ?_ _ | refine blk_drew ?_ | refine blk_alloc ?_ _)); refine blk_put (cs := #[.int .i64 t435, .string (⟨#[]⟩ : ByteArray), .int .i64 0]) ?_ 1 _ rfl; (with_reducible repeat (first | refine blk_drewN ?_ _ | refine blk_drew ?_ | refine blk_alloc ?_ _)); refine blk_put (cs := #[.int .i64 0, .string (⟨#[]⟩ : ByteArray), .int .i64 0]) ?_ 0 _ rfl; (with_reducible repeat (first | refine blk_drewN ?_ _ | refine blk_drew ?_ | refine blk_alloc ?_ _)); exact BK438.out) hg (Kd.R_away HO_3.out (fun _ hk => hk.2))); have n1_ := Aside0.mk (hb); have n2_ := Aside0.mk (ho); clear BK438; clear HB; clear HO_3; have BK438 := n0_; have HB := n1_; have HO441 := n2_; clear n0_ n1_ n2_; clear ho hb hg hat)); try go_wp2_with (first | (go_at_call 22; (with_reducible refine (refrainlaw5_plainest.calls k1 ((rd_T44 l0 x4_1).f0) ((rd_T44 l0 x4_1).f1) ((rd_T44 l0 x4_1).f2) t435 t436 t437 _ A6.out).mono ?_); rintro e w8 ⟨rfl, hb⟩; replace HO_3 := Aside0.mk (Kd.R_below (by (with_reducible repeat (first | apply Kd.R_alloc | apply Kd.R_drewN | apply Kd.R_drew)); exact HO_3.out) hb); replace HB := bsA HB hb; (try clear hb); (try clear hb2); (try clear hk); (try clear hi)) | ((with_reducible refine gate_dst (N := 5) rfl ?_); (try (refine gate_guard (by rfl) ?_; dsimp only)); refine box_event ?hg (N := 5) ?hd (cs := #[.int .i64 0, .string (⟨#[]⟩ : ByteArray), .int .i64 0]) (t := 44) ?hr ?_; (case hd => rfl); (case hg => rfl); (case hr => first | (go_simp; done) | (go_simp; rfl)); intro gb438 hg w9 hbox hb; have BK438 := Aside0.mk hbox; have GW438 := geA hg HB; have GE438 := geA hg HB; replace HO_3 := Aside0.mk (Kd.R_below (Kd.R_elderB (by (with_reducible repeat (first | apply Kd.R_alloc | apply Kd.R_drewN | apply Kd.R_drew)); exact HO_3.out) gb438 (Nat.le_of_eq hg.symm)) hb); replace HB := bsA HB hb; clear hb hbox hg; have hcz10_0 : w9.cell? ⟨gb438, 0, none⟩ = some (.int .i64 0) := (blk_cell BK438.out 0).trans rfl; have hcz10_1 : w9.cell? ⟨gb438, 1, none⟩ = some (.string (⟨#[]⟩ : ByteArray)) := (blk_cell BK438.out 1).trans rfl; have hcz10_2 : w9.cell? ⟨gb438, 2, none⟩ = some (.int .i64 0) := (blk_cell BK438.out 2).trans rfl; have hfz10_0 := blk_frozen BK438.out 0; have hfz10_1 := blk_frozen BK438.out 1; have hfz10_2 := blk_frozen BK438.out 2) | ((with_reducible refine gate_builtin (b := .append) (xs := #[.tmp 29, .tmp 31]) rfl ?_); (try (refine gate_guard (by rfl) ?_; dsimp only)); at_builtin; refine Kd.R_append k44 (w0 := w) w.heap.size rfl (.tmp 29) (.tmp 31) 40 44 (.agg #[(.int .i64 0), (.string ⟨#[]⟩), (.int .i64 0)]) 32 rfl Tryd.underlying40 info44 rfl (by decide) (by omega) u3 x3_1 (⟨t435, t436, t437⟩ : S44) [.int .i64 t435, .string t436, .int .i64 t437] (fun k_ => k_ ≠ gb438) (fun _ => False) rfl (by first | (go_simp; done) | (go_simp; rfl)) ?aP (fun _ hk => hk.elim) ?aF ?aO ?aB ?aS ?aL ?_; (case aP => exact k44_mkM _ _ _ (⟨t435, t436, t437⟩ : S44)); (case aB => exact (hbT HB.out)); (case aF => exact (fun k_ hk => Kd.freshB (g := gb438) (o := .cells #[.int .i64 t435, .string t436, .int .i64 t437] 44 (0, 0)) (by (with_reducible repeat (first | refine blk_drewN ?_ _ | refine blk_drew ?_ | refine blk_alloc ?_ _)); refine blk_put (cs := #[.int .i64 t435, .string t436, .int .i64 0]) ?_ 2 _ rfl; (with_reducible repeat (first | refine blk_drewN ?_ _ | refine blk_drew ?_ | refine blk_alloc ?_ _)); refine blk_put (cs := #[.int .i64 t435, .string (⟨#[]⟩ : ByteArray), .int .i64 0]) ?_ 1 _ rfl; (with_reducible repeat (first | refine blk_drewN ?_ _ | refine blk_drew ?_ | refine blk_alloc ?_ _)); refine blk_put (cs := #[.int .i64 0, .string (⟨#[]⟩ : ByteArray), .int .i64 0]) ?_ 0 _ rfl; (with_reducible repeat (first | refine blk_drewN ?_ _ | refine blk_drew ?_ | refine blk_alloc ?_ _)); exact BK438.out) k_ hk)); (case aO => exact (by (with_reducible repeat (first | apply Kd.R_alloc | apply Kd.R_drewN | apply Kd.R_drew)); exact Kd.R_mono (Kd.R_far (p := ⟨gb438, 2, none⟩) (Kd.R_far (p := ⟨gb438, 1, none⟩) (Kd.R_far (p := ⟨gb438, 0, none⟩) (Kd.R_mono HO_3.out (fun k_ hk => (⟨hk, hk.2⟩ : _ ∧ k_ ≠ gb438))) (fun _ hk => hk.2) (.int .i64 t435)) (fun _ hk => hk.2) (.string t436)) (fun _ hk => hk.2) (.int .i64 t437)) (fun _ hk => hk.1.2))); (case aS => exact (below_size (hbT HB.out))); (case aL => have := LMc7.out; omega); intro v440 w11 ho hb hg hat; rw [← Ny439.out] at ho; have n0_ := Aside0.mk (blk_grown (g := gb438) (o := .cells #[.int .i64 t435, .string t436, .int .i64 t437] 44 (0, 0)) (by (with_reducible repeat (first | refine blk_drewN ?_ _ | refine blk_drew ?_ | refine blk_alloc ?_ _)); refine blk_put (cs := #[.int .i64 t435, .string t436, .int .i64 0]) ?_ 2 _ rfl; (with_reducible repeat (first | refine blk_drewN ?_ _ | refine blk_drew ?_ | refine blk_alloc ?_ _)); refine blk_put (cs := #[.int .i64 t435, .string (⟨#[]⟩ : ByteArray), .int .i64 0]) ?_ 1 _ rfl; (with_reducible repeat (first | refine blk_drewN ?_ _ | refine blk_drew ?_ | refine blk_alloc ?_ _)); refine blk_put (cs := #[.int .i64 0, .string (⟨#[]⟩ : ByteArray), .int .i64 0]) ?_ 0 _ rfl; (with_reducible repeat (first | refine blk_drewN ?_ _ | refine blk_drew ?_ | refine blk_alloc ?_ _)); exact BK438.out) hg (Kd.R_away HO_3.out (fun _ hk => hk.2))); have n1_ := Aside0.mk (hb); have n2_ := Aside0.mk (ho); clear BK438; clear HB; clear HO_3; have BK438 := n0_; have HB := n1_; have HO441 := n2_; clear n0_ n1_ n2_; clear ho hb hg hat)))
                go_roundg k1
                case measure => have := HK1.out; omega
                case rel => exact ⟨(y439), (wrap64 (x4_1 + 1)), (by first | rfl | (simp; done) | (simp [*]; done) | (simp; unfold wrap64; omega) | (congr 1; (try rw [Bool.eq_iff_iff]); simp [List.isEmpty_iff]; done)), H', ⟨by have := HK1.out; omega⟩, ⟨by (with_reducible repeat (first | apply Kd.R_alloc | apply Kd.R_drewN | apply Kd.R_drew)); exact Kd.R_mono HO441.out (fun _ hk => trivial)⟩, ⟨hbT HB.out⟩⟩
              · rw [if_neg c7] at H
                exact absurd H (by simp)
            · rw [if_neg c5] at H
              exact absurd H (by simp)
          · rw [if_neg c4] at H
            have c4b0 : decide (x4_1 < 4) = false := decide_eq_false c4
            clear c4
            have H' := Aside0.mk H
            clear H
            go_wp2
            repeat (go_quiet (fail); try go_wp2)
            go_meet
            case rel => exact ⟨_, (x3_1), H', ⟨by have := HK1.out; first | omega | exact Nat.le_refl _⟩, ⟨by (with_reducible repeat (first | apply Kd.R_alloc | apply Kd.R_drewN | apply Kd.R_drew)); exact HO_3.out⟩, ⟨hbT HB.out⟩⟩
        · rw [if_neg c3] at H
          have c3b0 : decide (x4_1 < (l0.length : Int)) = false := decide_eq_false c3
          clear c3
          (first | rw [c3b0] | (simp only [i64_w, i32_w, IntKind.wrap_u8, IntKind.wrap_u16, IntKind.wrap_u32]; rw [c3b0]) | skip)
          have H' := Aside0.mk H
          clear H
          go_wp2
          repeat (go_quiet (fail); try go_wp2)
          go_meet
          case rel => exact ⟨_, (x3_1), H', ⟨by have := HK1.out; first | omega | exact Nat.le_refl _⟩, ⟨by (with_reducible repeat (first | apply Kd.R_alloc | apply Kd.R_drewN | apply Kd.R_drew)); exact HO_3.out⟩, ⟨hbT HB.out⟩⟩
  case rest =>
    clear HC2
    try clear p2
    try clear c3
    try clear c3b0
    try clear c4
    try clear c4b0
    try clear p4
    try clear q4
    try clear hx4
    try clear c5
    try clear c5b0
    try clear p6
    try clear c7
    try clear c9
    try clear hcz10_0
    try clear hcz10_1
    try clear hcz10_2
    try clear hfz10_0
    try clear hfz10_1
    try clear hfz10_2
    try clear hx434_0
    try clear hx434_1
    try clear hx434_2
    try clear p2
    try clear p434
    try clear q434
    obtain ⟨kq, x3_1, HA, HJ1, HO_3, HB⟩ := hcut
    cases kq with
    | zero => (have HA2 := HA.out; clear HA; revert HA2; rw [refrainlaw5_TokenBack.j1_zero]; intro h_; cases h_)
    | succ kj1 =>
      have H := HA.out
      clear HA
      simp only [refrainlaw5_TokenBack.j1] at H
      replace H := Option.bind_eq_some_iff.mp H
      obtain ⟨⟨t442, t443⟩, A120, H⟩ := H
      replace H : ((token_Scan.f kj1 t442).bind fun bt444 => (if t443 = 0 then (if bt444.2.2 = 0 then (if bt444.2.1 = 0 then ((refrainlaw5_alike.f kj1 x3_1 bt444.1).bind fun t449 => (refrainlaw5_TokenBack.j2 kj1 t442 bt444.1 (!t449))) else (refrainlaw5_TokenBack.j2 kj1 t442 bt444.1 true)) else (refrainlaw5_TokenBack.j2 kj1 t442 bt444.1 true)) else (refrainlaw5_TokenBack.j2 kj1 t442 bt444.1 true))) = some r := H
      have A12 := Aside0.mk A120
      clear A120
      replace H := Option.bind_eq_some_iff.mp H
      obtain ⟨⟨t444, t445, t446⟩, A130, H⟩ := H
      replace H : (if t443 = 0 then (if t446 = 0 then (if t445 = 0 then ((refrainlaw5_alike.f kj1 x3_1 t444).bind fun t449 => (refrainlaw5_TokenBack.j2 kj1 t442 t444 (!t449))) else (refrainlaw5_TokenBack.j2 kj1 t442 t444 true)) else (refrainlaw5_TokenBack.j2 kj1 t442 t444 true)) else (refrainlaw5_TokenBack.j2 kj1 t442 t444 true)) = some r := H
      have A13 := Aside0.mk A130
      clear A130
      have HC14 := Aside0.mk H
      clear H
      obtain ⟨Ao15, co15, eo15⟩ := Kd.R_slice HO_3.out
      subst eo15
      go_upto_region 9 with (first | (go_at_call 23; (with_reducible refine (token_Spell.calls _ _ x3_1 t442 t443 _ ?side1 ?side2 ?side3 A12.out).mono ?_); (case side1 => repeat (first | exact (Kd.R_reads' HO_3.out).2.2 | (with_reducible refine Kd.C_alloc ?_ _) | (with_reducible refine Kd.C_drewN ?_ _) | (with_reducible refine Kd.C_drew ?_))); (case side2 => exact (Kd.R_reads' HO_3.out).2.1); (case side3 => first | (with_reducible exact HL_LErr) | exact ⟨LErr.below HL_LErr.out (hbT HB.out)⟩); rintro e w16 ⟨rfl, hb⟩; replace HO_3 := Aside0.mk (Kd.R_below (by (with_reducible repeat (first | apply Kd.R_alloc | apply Kd.R_drewN | apply Kd.R_drew)); exact HO_3.out) hb); replace HB := bsA HB hb; (try clear hb); (try clear hb2); (try clear hk); (try clear hi)) | (go_at_call 21; (with_reducible refine (token_Scan.calls kj1 t442 t444 t445 t446 _ ?side1 A13.out).mono ?_); (case side1 => first | (with_reducible exact HL_LErr) | exact ⟨LErr.below HL_LErr.out (hbT HB.out)⟩); rintro e w17 ⟨v447, rfl, ho0, hb⟩; have HO448 := Aside0.mk (Kd.R_lower (Kd.R_new' ho0 (Kd.R_lt (by (with_reducible repeat (first | apply Kd.R_alloc | apply Kd.R_drewN | apply Kd.R_drew)); exact HO_3.out))) (below_size (hbT HB.out))); replace HO_3 := Aside0.mk (Kd.R_elder' (by (with_reducible repeat (first | apply Kd.R_alloc | apply Kd.R_drewN | apply Kd.R_drew)); exact HO_3.out) (Kd.R_base ho0) hb); replace HB := bsA HB hb; (try clear hb); (try clear hb2); (try clear hk); (try clear hi); (try clear ho0)))
      repeat (go_quiet (first | (go_at_call 23; (with_reducible refine (token_Spell.calls _ _ x3_1 t442 t443 _ ?side1 ?side2 ?side3 A12.out).mono ?_); (case side1 => repeat (first | exact (Kd.R_reads' HO_3.out).2.2 | (with_reducible refine Kd.C_alloc ?_ _) | (with_reducible refine Kd.C_drewN ?_ _) | (with_reducible refine Kd.C_drew ?_))); (case side2 => exact (Kd.R_reads' HO_3.out).2.1); (case side3 => first | (with_reducible exact HL_LErr) | exact ⟨LErr.below HL_LErr.out (hbT HB.out)⟩); rintro e w16 ⟨rfl, hb⟩; replace HO_3 := Aside0.mk (Kd.R_below (by (with_reducible repeat (first | apply Kd.R_alloc | apply Kd.R_drewN | apply Kd.R_drew)); exact HO_3.out) hb); replace HB := bsA HB hb; (try clear hb); (try clear hb2); (try clear hk); (try clear hi)) | (go_at_call 21; (with_reducible refine (token_Scan.calls kj1 t442 t444 t445 t446 _ ?side1 A13.out).mono ?_); (case side1 => first | (with_reducible exact HL_LErr) | exact ⟨LErr.below HL_LErr.out (hbT HB.out)⟩); rintro e w17 ⟨v447, rfl, ho0, hb⟩; have HO448 := Aside0.mk (Kd.R_lower (Kd.R_new' ho0 (Kd.R_lt (by (with_reducible repeat (first | apply Kd.R_alloc | apply Kd.R_drewN | apply Kd.R_drew)); exact HO_3.out))) (below_size (hbT HB.out))); replace HO_3 := Aside0.mk (Kd.R_elder' (by (with_reducible repeat (first | apply Kd.R_alloc | apply Kd.R_drewN | apply Kd.R_drew)); exact HO_3.out) (Kd.R_base ho0) hb); replace HB := bsA HB hb; (try clear hb); (try clear hb2); (try clear hk); (try clear hi); (try clear ho0))); go_upto_region 9 with (first | (go_at_call 23; (with_reducible refine (token_Spell.calls _ _ x3_1 t442 t443 _ ?side1 ?side2 ?side3 A12.out).mono ?_); (case side1 => repeat (first | exact (Kd.R_reads' HO_3.out).2.2 | (with_reducible refine Kd.C_alloc ?_ _) | (with_reducible refine Kd.C_drewN ?_ _) | (with_reducible refine Kd.C_drew ?_))); (case side2 => exact (Kd.R_reads' HO_3.out).2.1); (case side3 => first | (with_reducible exact HL_LErr) | exact ⟨LErr.below HL_LErr.out (hbT HB.out)⟩); rintro e w16 ⟨rfl, hb⟩; replace HO_3 := Aside0.mk (Kd.R_below (by (with_reducible repeat (first | apply Kd.R_alloc | apply Kd.R_drewN | apply Kd.R_drew)); exact HO_3.out) hb); replace HB := bsA HB hb; (try clear hb); (try clear hb2); (try clear hk); (try clear hi)) | (go_at_call 21; (with_reducible refine (token_Scan.calls kj1 t442 t444 t445 t446 _ ?side1 A13.out).mono ?_); (case side1 => first | (with_reducible exact HL_LErr) | exact ⟨LErr.below HL_LErr.out (hbT HB.out)⟩); rintro e w17 ⟨v447, rfl, ho0, hb⟩; have HO448 := Aside0.mk (Kd.R_lower (Kd.R_new' ho0 (Kd.R_lt (by (with_reducible repeat (first | apply Kd.R_alloc | apply Kd.R_drewN | apply Kd.R_drew)); exact HO_3.out))) (below_size (hbT HB.out))); replace HO_3 := Aside0.mk (Kd.R_elder' (by (with_reducible repeat (first | apply Kd.R_alloc | apply Kd.R_drewN | apply Kd.R_drew)); exact HO_3.out) (Kd.R_base ho0) hb); replace HB := bsA HB hb; (try clear hb); (try clear hb2); (try clear hk); (try clear hi); (try clear ho0))))
      (try simp only [Act.put, List.setIfInBounds_toArray, List.set_cons_zero, List.set_cons_succ])
      go_cut [59] (fun v59 wc => ∃ (kq : Nat) (x59_13 : Bool), v59 = .bool x59_13 ∧ Aside0 (refrainlaw5_TokenBack.j2 kq t442 t444 x59_13 = some r) ∧ Aside0 (kq ≤ kj1) ∧ Aside0 (Kd.R k44 44 wc w.heap.size (fun _ => True) v447 t444) ∧ Aside0 (Below w.heap.size w wc))
      case first =>
        have H := HC14.out
        clear HC14
        by_cases c18 : t443 = 0
        · rw [if_pos c18] at H
          have c18b0 : (t443 == 0) = true := beq_iff_eq.mpr c18
          have c18b1 : (t443 != 0) = false := bne_eq_false_iff_eq.mpr c18
          clear c18
          (first | rw [c18b0] | (simp only [i64_w, i32_w, IntKind.wrap_u8, IntKind.wrap_u16, IntKind.wrap_u32]; rw [c18b0]) | skip)
          by_cases c19 : t446 = 0
          · rw [if_pos c19] at H
            have c19b0 : (t446 == 0) = true := beq_iff_eq.mpr c19
            have c19b1 : (t446 != 0) = false := bne_eq_false_iff_eq.mpr c19
            clear c19
            by_cases c20 : t445 = 0
            · rw [if_pos c20] at H
              have c20b0 : (t445 == 0) = true := beq_iff_eq.mpr c20
              have c20b1 : (t445 != 0) = false := bne_eq_false_iff_eq.mpr c20
              clear c20
              replace H := Option.bind_eq_some_iff.mp H
              obtain ⟨t449, A210, H⟩ := H
              replace H : (refrainlaw5_TokenBack.j2 kj1 t442 t444 (!t449)) = some r := H
              have A21 := Aside0.mk A210
              clear A210
              have H' := Aside0.mk H
              clear H
              obtain ⟨Ao22, co22, eo22⟩ := Kd.R_slice HO448.out
              subst eo22
              go_wp2_with (first | (go_at_call 24; (with_reducible refine (refrainlaw5_alike.calls kj1 _ _ x3_1 _ _ t444 t449 _ ?side1 ?side2 ?side3 ?side4 A21.out).mono ?_); (case side1 => repeat (first | exact (Kd.R_reads' HO_3.out).2.2 | (with_reducible refine Kd.C_alloc ?_ _) | (with_reducible refine Kd.C_drewN ?_ _) | (with_reducible refine Kd.C_drew ?_))); (case side2 => exact (Kd.R_reads' HO_3.out).2.1); (case side3 => repeat (first | exact (Kd.R_reads' HO448.out).2.2 | (with_reducible refine Kd.C_alloc ?_ _) | (with_reducible refine Kd.C_drewN ?_ _) | (with_reducible refine Kd.C_drew ?_))); (case side4 => exact (Kd.R_reads' HO448.out).2.1); rintro e w' ⟨rfl, ⟨nd, rfl⟩⟩; (try first | exact ⟨rfl, _, World.drewN_drewN _ _ _⟩ | exact ⟨rfl, _, Eq.trans (World.drewN_drewN _ _ _) (congrArg (World.drewN _) (Nat.add_assoc _ _ _))⟩)))
              repeat (go_quiet (first | (go_at_call 24; (with_reducible refine (refrainlaw5_alike.calls kj1 _ _ x3_1 _ _ t444 t449 _ ?side1 ?side2 ?side3 ?side4 A21.out).mono ?_); (case side1 => repeat (first | exact (Kd.R_reads' HO_3.out).2.2 | (with_reducible refine Kd.C_alloc ?_ _) | (with_reducible refine Kd.C_drewN ?_ _) | (with_reducible refine Kd.C_drew ?_))); (case side2 => exact (Kd.R_reads' HO_3.out).2.1); (case side3 => repeat (first | exact (Kd.R_reads' HO448.out).2.2 | (with_reducible refine Kd.C_alloc ?_ _) | (with_reducible refine Kd.C_drewN ?_ _) | (with_reducible refine Kd.C_drew ?_))); (case side4 => exact (Kd.R_reads' HO448.out).2.1); rintro e w' ⟨rfl, ⟨nd, rfl⟩⟩; (try first | exact ⟨rfl, _, World.drewN_drewN _ _ _⟩ | exact ⟨rfl, _, Eq.trans (World.drewN_drewN _ _ _) (congrArg (World.drewN _) (Nat.add_assoc _ _ _))⟩))); try go_wp2_with (first | (go_at_call 24; (with_reducible refine (refrainlaw5_alike.calls kj1 _ _ x3_1 _ _ t444 t449 _ ?side1 ?side2 ?side3 ?side4 A21.out).mono ?_); (case side1 => repeat (first | exact (Kd.R_reads' HO_3.out).2.2 | (with_reducible refine Kd.C_alloc ?_ _) | (with_reducible refine Kd.C_drewN ?_ _) | (with_reducible refine Kd.C_drew ?_))); (case side2 => exact (Kd.R_reads' HO_3.out).2.1); (case side3 => repeat (first | exact (Kd.R_reads' HO448.out).2.2 | (with_reducible refine Kd.C_alloc ?_ _) | (with_reducible refine Kd.C_drewN ?_ _) | (with_reducible refine Kd.C_drew ?_))); (case side4 => exact (Kd.R_reads' HO448.out).2.1); rintro e w' ⟨rfl, ⟨nd, rfl⟩⟩; (try first | exact ⟨rfl, _, World.drewN_drewN _ _ _⟩ | exact ⟨rfl, _, Eq.trans (World.drewN_drewN _ _ _) (congrArg (World.drewN _) (Nat.add_assoc _ _ _))⟩))))
              go_meet
              case rel => exact ⟨_, (!t449), (by first | rfl | (simp; done) | (simp [*]; done) | (simp; unfold wrap64; omega) | (congr 1; (try rw [Bool.eq_iff_iff]); simp [List.isEmpty_iff]; done)), H', ⟨by have := HJ1.out; first | omega | exact Nat.le_refl _⟩, ⟨by (with_reducible repeat (first | apply Kd.R_alloc | apply Kd.R_drewN | apply Kd.R_drew)); exact Kd.R_mono HO448.out (fun _ hk => trivial)⟩, ⟨hbT HB.out⟩⟩
            · rw [if_neg c20] at H
              have c20b0 : (t445 == 0) = false := beq_eq_false_iff_ne.mpr c20
              have c20b1 : (t445 != 0) = true := bne_iff_ne.mpr c20
              have H' := Aside0.mk H
              clear H
              go_wp2
              repeat (go_quiet (fail); try go_wp2)
              go_meet
              case rel => exact ⟨_, (true), (by first | rfl | (simp; done) | (simp [*]; done) | (simp; unfold wrap64; omega) | (congr 1; (try rw [Bool.eq_iff_iff]); simp [List.isEmpty_iff]; done)), H', ⟨by have := HJ1.out; first | omega | exact Nat.le_refl _⟩, ⟨by (with_reducible repeat (first | apply Kd.R_alloc | apply Kd.R_drewN | apply Kd.R_drew)); exact Kd.R_mono HO448.out (fun _ hk => trivial)⟩, ⟨hbT HB.out⟩⟩
          · rw [if_neg c19] at H
            have c19b0 : (t446 == 0) = false := beq_eq_false_iff_ne.mpr c19
            have c19b1 : (t446 != 0) = true := bne_iff_ne.mpr c19
            have H' := Aside0.mk H
            clear H
            go_wp2
            repeat (go_quiet (fail); try go_wp2)
            go_meet
            case rel => exact ⟨_, (true), (by first | rfl | (simp; done) | (simp [*]; done) | (simp; unfold wrap64; omega) | (congr 1; (try rw [Bool.eq_iff_iff]); simp [List.isEmpty_iff]; done)), H', ⟨by have := HJ1.out; first | omega | exact Nat.le_refl _⟩, ⟨by (with_reducible repeat (first | apply Kd.R_alloc | apply Kd.R_drewN | apply Kd.R_drew)); exact Kd.R_mono HO448.out (fun _ hk => trivial)⟩, ⟨hbT HB.out⟩⟩
        · rw [if_neg c18] at H
          have c18b0 : (t443 == 0) = false := beq_eq_false_iff_ne.mpr c18
          have c18b1 : (t443 != 0) = true := bne_iff_ne.mpr c18
          (first | rw [c18b0] | (simp only [i64_w, i32_w, IntKind.wrap_u8, IntKind.wrap_u16, IntKind.wrap_u32]; rw [c18b0]) | skip)
          have H' := Aside0.mk H
          clear H
          go_wp2
          repeat (go_quiet (fail); try go_wp2)
          go_meet
          case rel => exact ⟨_, (true), (by first | rfl | (simp; done) | (simp [*]; done) | (simp; unfold wrap64; omega) | (congr 1; (try rw [Bool.eq_iff_iff]); simp [List.isEmpty_iff]; done)), H', ⟨by have := HJ1.out; first | omega | exact Nat.le_refl _⟩, ⟨by (with_reducible repeat (first | apply Kd.R_alloc | apply Kd.R_drewN | apply Kd.R_drew)); exact Kd.R_mono HO448.out (fun _ hk => trivial)⟩, ⟨hbT HB.out⟩⟩
      case rest =>
        clear HC14
        try clear c1
        try clear c2
        try clear p2
        try clear c3
        try clear c3b0
        try clear c4
        try clear c4b0
        try clear p4
        try clear q4
        try clear hx4
        try clear c5
        try clear c5b0
        try clear p6
        try clear c7
        try clear c9
        try clear c18
        try clear c18b0
        try clear c18b1
        try clear c19
        try clear c19b0
        try clear c19b1
        try clear c20
        try clear c20b0
        try clear c20b1
        try clear hcz10_0
        try clear hcz10_1
        try clear hcz10_2
        try clear hfz10_0
        try clear hfz10_1
        try clear hfz10_2
        try clear hx434_0
        try clear hx434_1
        try clear hx434_2
        try clear p2
        try clear p4
        try clear p434
        try clear p6
        try clear q4
        try clear q434
        obtain ⟨kq, x59_13, rfl, HA, HJ13, HO_8, HB⟩ := hcut
        cases kq with
        | zero => (have HA2 := HA.out; clear HA; revert HA2; rw [refrainlaw5_TokenBack.j2_zero]; intro h_; cases h_)
        | succ kj13 =>
          have H := HA.out
          clear HA
          simp only [refrainlaw5_TokenBack.j2] at H
          by_cases c23 : x59_13 = true
          · subst c23
            have H1 : (some false) = some r := by rw [if_pos rfl] at H; exact H
            clear H
            have H := H1
            clear H1
            obtain rfl := Option.some.inj H
            go_wp2
            repeat (go_quiet (fail); try go_wp2)
            go_ret
            exact ⟨by first | rfl | (simp [errW_none, errW_some] <;> rfl) | (simp [*, errW_none, errW_some] <;> rfl), hbT HB.out⟩
          · replace c23 := Bool.eq_false_iff.mpr c23
            subst c23
            have H1 : (refrainlaw5_TokenBack.l1 kj13 t442 t444 (-1) 0) = some r := by rw [if_neg (show ¬ (false = true) by decide)] at H; exact H
            clear H
            have H := H1
            clear H1
            have H' := Aside0.mk H
            clear H
            go_wp2
            repeat (go_quiet (fail); try go_wp2)
            go_loopg [11, 12] kj13 (fun kq v11 v12 w' => ∃ (x11_3 : Int) (x12_3 : Int), v11 = .int .i64 x11_3 ∧ v12 = .int .i64 x12_3 ∧ Aside0 (refrainlaw5_TokenBack.l1 kq t442 t444 x11_3 x12_3 = some r) ∧ Aside0 (kq ≤ kj13) ∧ Aside0 (Kd.R k44 44 w' w.heap.size (fun _ => True) v447 t444) ∧ Aside0 (Below w.heap.size w w'))
            case atStart => exact ⟨((-1)), (0), (by first | rfl | (simp; done) | (simp [*]; done) | (simp; unfold wrap64; omega) | (congr 1; (try rw [Bool.eq_iff_iff]); simp [List.isEmpty_iff]; done)), (by first | rfl | (simp; done) | (simp [*]; done) | (simp; unfold wrap64; omega) | (congr 1; (try rw [Bool.eq_iff_iff]); simp [List.isEmpty_iff]; done)), H', ⟨Nat.le_refl _⟩, ⟨by (with_reducible repeat (first | apply Kd.R_alloc | apply Kd.R_drewN | apply Kd.R_drew)); exact HO_8.out⟩, ⟨hbT HB.out⟩⟩
            case round =>
              clear H'
              try clear c1
              try clear c2
              try clear p2
              try clear c3
              try clear c3b0
              try clear c4
              try clear c4b0
              try clear p4
              try clear q4
              try clear hx4
              try clear c5
              try clear c5b0
              try clear p6
              try clear c7
              try clear c9
              try clear c18
              try clear c18b0
              try clear c18b1
              try clear c19
              try clear c19b0
              try clear c19b1
              try clear c20
              try clear c20b0
              try clear c20b1
              try clear c23
              try clear hcz10_0
              try clear hcz10_1
              try clear hcz10_2
              try clear hfz10_0
              try clear hfz10_1
              try clear hfz10_2
              try clear hx434_0
              try clear hx434_1
              try clear hx434_2
              try clear p2
              try clear p4
              try clear p434
              try clear p6
              try clear q4
              try clear q434
              obtain ⟨x11_3, x12_3, rfl, rfl, HA, HK3, HO_8, HB⟩ := hrel
              cases gk with
              | zero => (have HA2 := HA.out; clear HA; revert HA2; rw [refrainlaw5_TokenBack.l1_zero]; intro h_; cases h_)
              | succ k3 =>
                have H := HA.out
                clear HA
                simp only [refrainlaw5_TokenBack.l1] at H
                by_cases c24 : x12_3 < (t444.length : Int)
                · rw [if_pos c24] at H
                  have c24b0 : decide (x12_3 < (t444.length : Int)) = true := decide_eq_true c24
                  clear c24
                  by_cases c25 : 0 ≤ x12_3
                  · rw [if_pos c25] at H
                    have c25b0 : decide (0 ≤ x12_3) = true := decide_eq_true c25
                    clear c25
                    have HC26 := Aside0.mk H
                    clear H
                    obtain ⟨Ao27, co27, eo27⟩ := Kd.R_slice HO_8.out
                    subst eo27
                    have p451 : 0 ≤ (x12_3 : Int) := of_decide_eq_true (by first | (with_reducible assumption) | assumption)
                    have q451 : x12_3 < (t444.length : Int) := of_decide_eq_true (by first | (with_reducible assumption) | assumption)
                    obtain ⟨ad451, e451, hx451_0, hx451_1, hx451_2⟩ := at_T44 (Kd.R_reads' HO_8.out).2.2 x12_3 p451 q451
                    cases e451
                    replace p451 := eq_true p451
                    replace q451 := eq_true q451
                    go_upto_region 16 with (first | ((with_reducible refine gate_dst (N := 13) rfl ?_); (try (refine gate_guard (by rfl) ?_; dsimp only)); refine box_event ?hg (N := 13) ?hd (cs := #[.int .i64 0, .string (⟨#[]⟩ : ByteArray), .int .i64 0]) (t := 44) ?hr ?_; (case hd => rfl); (case hg => rfl); (case hr => first | (go_simp; done) | (go_simp; rfl)); intro gb452 hg w28 hbox hb; have BK452 := Aside0.mk hbox; have GW452 := geA hg HB; have GE452 := geA hg HB; replace HO_8 := Aside0.mk (Kd.R_below (Kd.R_elderB (by (with_reducible repeat (first | apply Kd.R_alloc | apply Kd.R_drewN | apply Kd.R_drew)); exact HO_8.out) gb452 (Nat.le_of_eq hg.symm)) hb); replace HB := bsA HB hb; clear hb hbox hg; have hcz29_0 : w28.cell? ⟨gb452, 0, none⟩ = some (.int .i64 0) := (blk_cell BK452.out 0).trans rfl; have hcz29_1 : w28.cell? ⟨gb452, 1, none⟩ = some (.string (⟨#[]⟩ : ByteArray)) := (blk_cell BK452.out 1).trans rfl; have hcz29_2 : w28.cell? ⟨gb452, 2, none⟩ = some (.int .i64 0) := (blk_cell BK452.out 2).trans rfl; have hfz29_0 := blk_frozen BK452.out 0; have hfz29_1 := blk_frozen BK452.out 1; have hfz29_2 := blk_frozen BK452.out 2))
                    repeat (go_quiet (first | ((with_reducible refine gate_dst (N := 13) rfl ?_); (try (refine gate_guard (by rfl) ?_; dsimp only)); refine box_event ?hg (N := 13) ?hd (cs := #[.int .i64 0, .string (⟨#[]⟩ : ByteArray), .int .i64 0]) (t := 44) ?hr ?_; (case hd => rfl); (case hg => rfl); (case hr => first | (go_simp; done) | (go_simp; rfl)); intro gb452 hg w28 hbox hb; have BK452 := Aside0.mk hbox; have GW452 := geA hg HB; have GE452 := geA hg HB; replace HO_8 := Aside0.mk (Kd.R_below (Kd.R_elderB (by (with_reducible repeat (first | apply Kd.R_alloc | apply Kd.R_drewN | apply Kd.R_drew)); exact HO_8.out) gb452 (Nat.le_of_eq hg.symm)) hb); replace HB := bsA HB hb; clear hb hbox hg; have hcz29_0 : w28.cell? ⟨gb452, 0, none⟩ = some (.int .i64 0) := (blk_cell BK452.out 0).trans rfl; have hcz29_1 : w28.cell? ⟨gb452, 1, none⟩ = some (.string (⟨#[]⟩ : ByteArray)) := (blk_cell BK452.out 1).trans rfl; have hcz29_2 : w28.cell? ⟨gb452, 2, none⟩ = some (.int .i64 0) := (blk_cell BK452.out 2).trans rfl; have hfz29_0 := blk_frozen BK452.out 0; have hfz29_1 := blk_frozen BK452.out 1; have hfz29_2 := blk_frozen BK452.out 2)); go_upto_region 16 with (first | ((with_reducible refine gate_dst (N := 13) rfl ?_); (try (refine gate_guard (by rfl) ?_; dsimp only)); refine box_event ?hg (N := 13) ?hd (cs := #[.int .i64 0, .string (⟨#[]⟩ : ByteArray), .int .i64 0]) (t := 44) ?hr ?_; (case hd => rfl); (case hg => rfl); (case hr => first | (go_simp; done) | (go_simp; rfl)); intro gb452 hg w28 hbox hb; have BK452 := Aside0.mk hbox; have GW452 := geA hg HB; have GE452 := geA hg HB; replace HO_8 := Aside0.mk (Kd.R_below (Kd.R_elderB (by (with_reducible repeat (first | apply Kd.R_alloc | apply Kd.R_drewN | apply Kd.R_drew)); exact HO_8.out) gb452 (Nat.le_of_eq hg.symm)) hb); replace HB := bsA HB hb; clear hb hbox hg; have hcz29_0 : w28.cell? ⟨gb452, 0, none⟩ = some (.int .i64 0) := (blk_cell BK452.out 0).trans rfl; have hcz29_1 : w28.cell? ⟨gb452, 1, none⟩ = some (.string (⟨#[]⟩ : ByteArray)) := (blk_cell BK452.out 1).trans rfl; have hcz29_2 : w28.cell? ⟨gb452, 2, none⟩ = some (.int .i64 0) := (blk_cell BK452.out 2).trans rfl; have hfz29_0 := blk_frozen BK452.out 0; have hfz29_1 := blk_frozen BK452.out 1; have hfz29_2 := blk_frozen BK452.out 2)))
                    (try simp only [Act.put, List.setIfInBounds_toArray, List.set_cons_zero, List.set_cons_succ])
                    go_cut [89] (fun v89 wc => ∃ (kq : Nat) (x89_25 : Bool), v89 = .bool x89_25 ∧ Aside0 (refrainlaw5_TokenBack.j4 kq t442 t444 x12_3 x89_25 ((rd_T44 t444 x12_3).f0) ((rd_T44 t444 x12_3).f1) ((rd_T44 t444 x12_3).f2) = some r) ∧ Aside0 (kq ≤ k3) ∧ Aside0 (Kd.R k44 44 wc w.heap.size (fun k_ => k_ ≠ gb452) (.slice (some ad451) t444.length co27) t444) ∧ Aside0 (wc.heap[gb452]? = some (.cells #[.int .i64 ((rd_T44 t444 x12_3).f0), .string ((rd_T44 t444 x12_3).f1), .int .i64 ((rd_T44 t444 x12_3).f2)] 44 (0, 0))) ∧ Aside0 (Below w.heap.size w wc))
                    case first =>
                      have H := HC26.out
                      clear HC26
                      by_cases c30 : ((rd_T44 t444 x12_3).f2) < 0
                      · rw [if_pos c30] at H
                        have c30b0 : decide (((rd_T44 t444 x12_3).f2) < 0) = true := decide_eq_true c30
                        clear c30
                        (first | rw [c30b0] | (simp only [i64_w, i32_w, IntKind.wrap_u8, IntKind.wrap_u16, IntKind.wrap_u32]; rw [c30b0]) | skip)
                        have H' := Aside0.mk H
                        clear H; have hcz31_0 : w28.cell? ⟨gb452, 0, none⟩ = some (.int .i64 0) := (blk_cell BK452.out 0).trans rfl
                        have hcz31_1 : w28.cell? ⟨gb452, 1, none⟩ = some (.string (⟨#[]⟩ : ByteArray)) := (blk_cell BK452.out 1).trans rfl; have hcz31_2 : w28.cell? ⟨gb452, 2, none⟩ = some (.int .i64 0) := (blk_cell BK452.out 2).trans rfl; have hfz31_0 := blk_frozen BK452.out 0; have hfz31_1 := blk_frozen BK452.out 1; have hfz31_2 := blk_frozen BK452.out 2
                        go_wp2
                        repeat (go_quiet (fail); try go_wp2)
                        go_meet
                        case rel => exact ⟨_, (true), (by first | rfl | (simp; done) | (simp [*]; done) | (simp; unfold wrap64; omega) | (congr 1; (try rw [Bool.eq_iff_iff]); simp [List.isEmpty_iff]; done)), H', ⟨by have := HJ1.out; have := HJ13.out; have := HK3.out; first | omega | exact Nat.le_refl _⟩, ⟨by (with_reducible repeat (first | apply Kd.R_alloc | apply Kd.R_drewN | apply Kd.R_drew)); exact Kd.R_mono (Kd.R_far (p := ⟨gb452, 2, none⟩) (Kd.R_far (p := ⟨gb452, 1, none⟩) (Kd.R_far (p := ⟨gb452, 0, none⟩) (Kd.R_mono HO_8.out (fun k_ hk => (⟨hk, hk.2⟩ : _ ∧ k_ ≠ gb452))) (fun _ hk => hk.2) (.int .i64 ((rd_T44 t444 x12_3).f0))) (fun _ hk => hk.2) (.string ((rd_T44 t444 x12_3).f1))) (fun _ hk => hk.2) (.int .i64 ((rd_T44 t444 x12_3).f2))) (fun _ hk => hk.1.2)⟩, ⟨by (with_reducible repeat (first | refine blk_drewN ?_ _ | refine blk_drew ?_ | refine blk_alloc ?_ _)); refine blk_put (cs := #[.int .i64 ((rd_T44 t444 x12_3).f0), .string ((rd_T44 t444 x12_3).f1), .int .i64 0]) ?_ 2 _ rfl; (with_reducible repeat (first | refine blk_drewN ?_ _ | refine blk_drew ?_ | refine blk_alloc ?_ _)); refine blk_put (cs := #[.int .i64 ((rd_T44 t444 x12_3).f0), .string (⟨#[]⟩ : ByteArray), .int .i64 0]) ?_ 1 _ rfl; (with_reducible repeat (first | refine blk_drewN ?_ _ | refine blk_drew ?_ | refine blk_alloc ?_ _)); refine blk_put (cs := #[.int .i64 0, .string (⟨#[]⟩ : ByteArray), .int .i64 0]) ?_ 0 _ rfl; (with_reducible repeat (first | refine blk_drewN ?_ _ | refine blk_drew ?_ | refine blk_alloc ?_ _)); exact BK452.out⟩, ⟨hbT HB.out⟩⟩
                      · rw [if_neg c30] at H
                        have c30b0 : decide (((rd_T44 t444 x12_3).f2) < 0) = false := decide_eq_false c30
                        clear c30
                        (first | rw [c30b0] | (simp only [i64_w, i32_w, IntKind.wrap_u8, IntKind.wrap_u16, IntKind.wrap_u32]; rw [c30b0]) | skip)
                        by_cases c32 : ((rd_T44 t444 x12_3).f2) > (t442.size : Int)
                        · rw [if_pos c32] at H
                          have c32b0 : decide ((t442.size : Int) < ((rd_T44 t444 x12_3).f2)) = true := decide_eq_true c32
                          clear c32
                          have H' := Aside0.mk H
                          clear H; have hcz33_0 : w28.cell? ⟨gb452, 0, none⟩ = some (.int .i64 0) := (blk_cell BK452.out 0).trans rfl
                          have hcz33_1 : w28.cell? ⟨gb452, 1, none⟩ = some (.string (⟨#[]⟩ : ByteArray)) := (blk_cell BK452.out 1).trans rfl; have hcz33_2 : w28.cell? ⟨gb452, 2, none⟩ = some (.int .i64 0) := (blk_cell BK452.out 2).trans rfl; have hfz33_0 := blk_frozen BK452.out 0; have hfz33_1 := blk_frozen BK452.out 1; have hfz33_2 := blk_frozen BK452.out 2
                          go_wp2
                          repeat (go_quiet (fail); try go_wp2)
                          go_meet
                          case rel => exact ⟨_, (true), (by first | rfl | (simp; done) | (simp [*]; done) | (simp; unfold wrap64; omega) | (congr 1; (try rw [Bool.eq_iff_iff]); simp [List.isEmpty_iff]; done)), H', ⟨by have := HJ1.out; have := HJ13.out; have := HK3.out; first | omega | exact Nat.le_refl _⟩, ⟨by (with_reducible repeat (first | apply Kd.R_alloc | apply Kd.R_drewN | apply Kd.R_drew)); exact Kd.R_mono (Kd.R_far (p := ⟨gb452, 2, none⟩) (Kd.R_far (p := ⟨gb452, 1, none⟩) (Kd.R_far (p := ⟨gb452, 0, none⟩) (Kd.R_mono HO_8.out (fun k_ hk => (⟨hk, hk.2⟩ : _ ∧ k_ ≠ gb452))) (fun _ hk => hk.2) (.int .i64 ((rd_T44 t444 x12_3).f0))) (fun _ hk => hk.2) (.string ((rd_T44 t444 x12_3).f1))) (fun _ hk => hk.2) (.int .i64 ((rd_T44 t444 x12_3).f2))) (fun _ hk => hk.1.2)⟩, ⟨by (with_reducible repeat (first | refine blk_drewN ?_ _ | refine blk_drew ?_ | refine blk_alloc ?_ _)); refine blk_put (cs := #[.int .i64 ((rd_T44 t444 x12_3).f0), .string ((rd_T44 t444 x12_3).f1), .int .i64 0]) ?_ 2 _ rfl; (with_reducible repeat (first | refine blk_drewN ?_ _ | refine blk_drew ?_ | refine blk_alloc ?_ _)); refine blk_put (cs := #[.int .i64 ((rd_T44 t444 x12_3).f0), .string (⟨#[]⟩ : ByteArray), .int .i64 0]) ?_ 1 _ rfl; (with_reducible repeat (first | refine blk_drewN ?_ _ | refine blk_drew ?_ | refine blk_alloc ?_ _)); refine blk_put (cs := #[.int .i64 0, .string (⟨#[]⟩ : ByteArray), .int .i64 0]) ?_ 0 _ rfl; (with_reducible repeat (first | refine blk_drewN ?_ _ | refine blk_drew ?_ | refine blk_alloc ?_ _)); exact BK452.out⟩, ⟨hbT HB.out⟩⟩
                        · rw [if_neg c32] at H
                          have c32b0 : decide ((t442.size : Int) < ((rd_T44 t444 x12_3).f2)) = false := decide_eq_false c32
                          clear c32
                          by_cases c34 : ((rd_T44 t444 x12_3).f2) ≤ x11_3
                          · rw [if_pos c34] at H
                            have c34b0 : decide (((rd_T44 t444 x12_3).f2) ≤ x11_3) = true := decide_eq_true c34
                            clear c34
                            have H' := Aside0.mk H
                            clear H; have hcz35_0 : w28.cell? ⟨gb452, 0, none⟩ = some (.int .i64 0) := (blk_cell BK452.out 0).trans rfl
                            have hcz35_1 : w28.cell? ⟨gb452, 1, none⟩ = some (.string (⟨#[]⟩ : ByteArray)) := (blk_cell BK452.out 1).trans rfl; have hcz35_2 : w28.cell? ⟨gb452, 2, none⟩ = some (.int .i64 0) := (blk_cell BK452.out 2).trans rfl; have hfz35_0 := blk_frozen BK452.out 0; have hfz35_1 := blk_frozen BK452.out 1; have hfz35_2 := blk_frozen BK452.out 2
                            go_wp2
                            repeat (go_quiet (fail); try go_wp2)
                            go_meet
                            case rel => exact ⟨_, (decide (x12_3 > 0)), (by first | rfl | (simp; done) | (simp [*]; done) | (simp; unfold wrap64; omega) | (congr 1; (try rw [Bool.eq_iff_iff]); simp [List.isEmpty_iff]; done)), H', ⟨by have := HJ1.out; have := HJ13.out; have := HK3.out; first | omega | exact Nat.le_refl _⟩, ⟨by (with_reducible repeat (first | apply Kd.R_alloc | apply Kd.R_drewN | apply Kd.R_drew)); exact Kd.R_mono (Kd.R_far (p := ⟨gb452, 2, none⟩) (Kd.R_far (p := ⟨gb452, 1, none⟩) (Kd.R_far (p := ⟨gb452, 0, none⟩) (Kd.R_mono HO_8.out (fun k_ hk => (⟨hk, hk.2⟩ : _ ∧ k_ ≠ gb452))) (fun _ hk => hk.2) (.int .i64 ((rd_T44 t444 x12_3).f0))) (fun _ hk => hk.2) (.string ((rd_T44 t444 x12_3).f1))) (fun _ hk => hk.2) (.int .i64 ((rd_T44 t444 x12_3).f2))) (fun _ hk => hk.1.2)⟩, ⟨by (with_reducible repeat (first | refine blk_drewN ?_ _ | refine blk_drew ?_ | refine blk_alloc ?_ _)); refine blk_put (cs := #[.int .i64 ((rd_T44 t444 x12_3).f0), .string ((rd_T44 t444 x12_3).f1), .int .i64 0]) ?_ 2 _ rfl; (with_reducible repeat (first | refine blk_drewN ?_ _ | refine blk_drew ?_ | refine blk_alloc ?_ _)); refine blk_put (cs := #[.int .i64 ((rd_T44 t444 x12_3).f0), .string (⟨#[]⟩ : ByteArray), .int .i64 0]) ?_ 1 _ rfl; (with_reducible repeat (first | refine blk_drewN ?_ _ | refine blk_drew ?_ | refine blk_alloc ?_ _)); refine blk_put (cs := #[.int .i64 0, .string (⟨#[]⟩ : ByteArray), .int .i64 0]) ?_ 0 _ rfl; (with_reducible repeat (first | refine blk_drewN ?_ _ | refine blk_drew ?_ | refine blk_alloc ?_ _)); exact BK452.out⟩, ⟨hbT HB.out⟩⟩
                          · rw [if_neg c34] at H
                            have c34b0 : decide (((rd_T44 t444 x12_3).f2) ≤ x11_3) = false := decide_eq_false c34
                            clear c34
                            have H' := Aside0.mk H
                            clear H; have hcz36_0 : w28.cell? ⟨gb452, 0, none⟩ = some (.int .i64 0) := (blk_cell BK452.out 0).trans rfl
                            have hcz36_1 : w28.cell? ⟨gb452, 1, none⟩ = some (.string (⟨#[]⟩ : ByteArray)) := (blk_cell BK452.out 1).trans rfl; have hcz36_2 : w28.cell? ⟨gb452, 2, none⟩ = some (.int .i64 0) := (blk_cell BK452.out 2).trans rfl; have hfz36_0 := blk_frozen BK452.out 0; have hfz36_1 := blk_frozen BK452.out 1; have hfz36_2 := blk_frozen BK452.out 2
                            go_wp2
                            repeat (go_quiet (fail); try go_wp2)
                            go_meet
                            case rel => exact ⟨_, (false), (by first | rfl | (simp; done) | (simp [*]; done) | (simp; unfold wrap64; omega) | (congr 1; (try rw [Bool.eq_iff_iff]); simp [List.isEmpty_iff]; done)), H', ⟨by have := HJ1.out; have := HJ13.out; have := HK3.out; first | omega | exact Nat.le_refl _⟩, ⟨by (with_reducible repeat (first | apply Kd.R_alloc | apply Kd.R_drewN | apply Kd.R_drew)); exact Kd.R_mono (Kd.R_far (p := ⟨gb452, 2, none⟩) (Kd.R_far (p := ⟨gb452, 1, none⟩) (Kd.R_far (p := ⟨gb452, 0, none⟩) (Kd.R_mono HO_8.out (fun k_ hk => (⟨hk, hk.2⟩ : _ ∧ k_ ≠ gb452))) (fun _ hk => hk.2) (.int .i64 ((rd_T44 t444 x12_3).f0))) (fun _ hk => hk.2) (.string ((rd_T44 t444 x12_3).f1))) (fun _ hk => hk.2) (.int .i64 ((rd_T44 t444 x12_3).f2))) (fun _ hk => hk.1.2)⟩, ⟨by (with_reducible repeat (first | refine blk_drewN ?_ _ | refine blk_drew ?_ | refine blk_alloc ?_ _)); refine blk_put (cs := #[.int .i64 ((rd_T44 t444 x12_3).f0), .string ((rd_T44 t444 x12_3).f1), .int .i64 0]) ?_ 2 _ rfl; (with_reducible repeat (first | refine blk_drewN ?_ _ | refine blk_drew ?_ | refine blk_alloc ?_ _)); refine blk_put (cs := #[.int .i64 ((rd_T44 t444 x12_3).f0), .string (⟨#[]⟩ : ByteArray), .int .i64 0]) ?_ 1 _ rfl; (with_reducible repeat (first | refine blk_drewN ?_ _ | refine blk_drew ?_ | refine blk_alloc ?_ _)); refine blk_put (cs := #[.int .i64 0, .string (⟨#[]⟩ : ByteArray), .int .i64 0]) ?_ 0 _ rfl; (with_reducible repeat (first | refine blk_drewN ?_ _ | refine blk_drew ?_ | refine blk_alloc ?_ _)); exact BK452.out⟩, ⟨hbT HB.out⟩⟩
                    case rest =>
                      clear HC26
                      try clear c1
                      try clear c2
                      try clear p2
                      try clear c3
                      try clear c3b0
                      try clear c4
                      try clear c4b0
                      try clear p4
                      try clear q4
                      try clear hx4
                      try clear c5
                      try clear c5b0
                      try clear p6
                      try clear c7
                      try clear c9
                      try clear c18
                      try clear c18b0
                      try clear c18b1
                      try clear c19
                      try clear c19b0
                      try clear c19b1
                      try clear c20
                      try clear c20b0
                      try clear c20b1
                      try clear c23
                      try clear c24
                      try clear c24b0
                      try clear c25
                      try clear c25b0
                      try clear c30
                      try clear c30b0
                      try clear c32
                      try clear c32b0
                      try clear c34
                      try clear c34b0
                      try clear hcz10_0
                      try clear hcz10_1
                      try clear hcz10_2
                      try clear hcz29_0
                      try clear hcz29_1
                      try clear hcz29_2
                      try clear hcz31_0
                      try clear hcz31_1
                      try clear hcz31_2
                      try clear hcz33_0
                      try clear hcz33_1
                      try clear hcz33_2
                      try clear hcz35_0
                      try clear hcz35_1
                      try clear hcz35_2
                      try clear hcz36_0
                      try clear hcz36_1
                      try clear hcz36_2
                      try clear hfz10_0
                      try clear hfz10_1
                      try clear hfz10_2
                      try clear hfz29_0
                      try clear hfz29_1
                      try clear hfz29_2
                      try clear hfz31_0
                      try clear hfz31_1
                      try clear hfz31_2
                      try clear hfz33_0
                      try clear hfz33_1
                      try clear hfz33_2
                      try clear hfz35_0
                      try clear hfz35_1
                      try clear hfz35_2
                      try clear hfz36_0
                      try clear hfz36_1
                      try clear hfz36_2
                      try clear hx434_0
                      try clear hx434_1
                      try clear hx434_2
                      try clear hx451_0
                      try clear hx451_1
                      try clear hx451_2
                      try clear p2
                      try clear p4
                      try clear p434
                      try clear p451
                      try clear p6
                      try clear q4
                      try clear q434
                      try clear q451
                      obtain ⟨kq, x89_25, rfl, HA, HJ25, HO_8, BK452, HB⟩ := hcut
                      cases kq with
                      | zero => (have HA2 := HA.out; clear HA; revert HA2; rw [refrainlaw5_TokenBack.j4_zero]; intro h_; cases h_)
                      | succ kj25 =>
                        have H := HA.out
                        clear HA
                        simp only [refrainlaw5_TokenBack.j4] at H
                        by_cases c37 : x89_25 = true
                        · subst c37
                          have H1 : (some false) = some r := by rw [if_pos rfl] at H; exact H
                          clear H
                          have H := H1
                          clear H1
                          obtain rfl := Option.some.inj H
                          go_wp2
                          repeat (go_quiet (fail); try go_wp2)
                          go_ret
                          exact ⟨by first | rfl | (simp [errW_none, errW_some] <;> rfl) | (simp [*, errW_none, errW_some] <;> rfl), hbT HB.out⟩
                        · replace c37 := Bool.eq_false_iff.mpr c37
                          subst c37
                          have H1 : (if ((rd_T44 t444 x12_3).f0) = 1 then (if (wrap64 (((rd_T44 t444 x12_3).f2) + (((rd_T44 t444 x12_3).f1).size : Int))) > (t442.size : Int) then (some false) else (if 0 ≤ ((rd_T44 t444 x12_3).f2) then (if ((rd_T44 t444 x12_3).f2) ≤ (wrap64 (((rd_T44 t444 x12_3).f2) + (((rd_T44 t444 x12_3).f1).size : Int))) then (if (wrap64 (((rd_T44 t444 x12_3).f2) + (((rd_T44 t444 x12_3).f1).size : Int))) ≤ (t442.size : Int) then (if (t442.extract (((rd_T44 t444 x12_3).f2) : Int).toNat ((wrap64 (((rd_T44 t444 x12_3).f2) + (((rd_T44 t444 x12_3).f1).size : Int))) : Int).toNat).toList = ((rd_T44 t444 x12_3).f1).toList then (refrainlaw5_TokenBack.l1 kj25 t442 t444 ((rd_T44 t444 x12_3).f2) (wrap64 (x12_3 + 1))) else (some false)) else (none)) else (none)) else (none))) else (if ((rd_T44 t444 x12_3).f0) = 2 then (if (wrap64 (((rd_T44 t444 x12_3).f2) + (((rd_T44 t444 x12_3).f1).size : Int))) > (t442.size : Int) then (some false) else (if 0 ≤ ((rd_T44 t444 x12_3).f2) then (if ((rd_T44 t444 x12_3).f2) ≤ (wrap64 (((rd_T44 t444 x12_3).f2) + (((rd_T44 t444 x12_3).f1).size : Int))) then (if (wrap64 (((rd_T44 t444 x12_3).f2) + (((rd_T44 t444 x12_3).f1).size : Int))) ≤ (t442.size : Int) then (if (t442.extract (((rd_T44 t444 x12_3).f2) : Int).toNat ((wrap64 (((rd_T44 t444 x12_3).f2) + (((rd_T44 t444 x12_3).f1).size : Int))) : Int).toNat).toList = ((rd_T44 t444 x12_3).f1).toList then (refrainlaw5_TokenBack.l1 kj25 t442 t444 ((rd_T44 t444 x12_3).f2) (wrap64 (x12_3 + 1))) else (some false)) else (none)) else (none)) else (none))) else (if ((rd_T44 t444 x12_3).f0) = 4 then (if (wrap64 (((rd_T44 t444 x12_3).f2) + (((rd_T44 t444 x12_3).f1).size : Int))) > (t442.size : Int) then (some false) else (if 0 ≤ ((rd_T44 t444 x12_3).f2) then (if ((rd_T44 t444 x12_3).f2) ≤ (wrap64 (((rd_T44 t444 x12_3).f2) + (((rd_T44 t444 x12_3).f1).size : Int))) then (if (wrap64 (((rd_T44 t444 x12_3).f2) + (((rd_T44 t444 x12_3).f1).size : Int))) ≤ (t442.size : Int) then (if (t442.extract (((rd_T44 t444 x12_3).f2) : Int).toNat ((wrap64 (((rd_T44 t444 x12_3).f2) + (((rd_T44 t444 x12_3).f1).size : Int))) : Int).toNat).toList = ((rd_T44 t444 x12_3).f1).toList then (refrainlaw5_TokenBack.l1 kj25 t442 t444 ((rd_T44 t444 x12_3).f2) (wrap64 (x12_3 + 1))) else (some false)) else (none)) else (none)) else (none))) else (refrainlaw5_TokenBack.l1 kj25 t442 t444 ((rd_T44 t444 x12_3).f2) (wrap64 (x12_3 + 1)))))) = some r := by rw [if_neg (show ¬ (false = true) by decide)] at H; exact H
                          clear H
                          have H := H1
                          clear H1
                          by_cases c38 : ((rd_T44 t444 x12_3).f0) = 1
                          · rw [if_pos c38] at H
                            have c38b0 : (((rd_T44 t444 x12_3).f0) == 1) = true := beq_iff_eq.mpr c38
                            have c38b1 : (((rd_T44 t444 x12_3).f0) != 1) = false := bne_eq_false_iff_eq.mpr c38
                            clear c38
                            by_cases c39 : (wrap64 (((rd_T44 t444 x12_3).f2) + (((rd_T44 t444 x12_3).f1).size : Int))) > (t442.size : Int)
                            · rw [if_pos c39] at H
                              have c39b0 : decide ((t442.size : Int) < (wrap64 (((rd_T44 t444 x12_3).f2) + (((rd_T44 t444 x12_3).f1).size : Int)))) = true := decide_eq_true c39
                              clear c39
                              obtain rfl := Option.some.inj H
                              have hcz40_0 : wc.cell? ⟨gb452, 0, none⟩ = some (.int .i64 ((rd_T44 t444 x12_3).f0)) := (blk_cell BK452.out 0).trans rfl; have hcz40_1 : wc.cell? ⟨gb452, 1, none⟩ = some (.string ((rd_T44 t444 x12_3).f1)) := (blk_cell BK452.out 1).trans rfl; have hcz40_2 : wc.cell? ⟨gb452, 2, none⟩ = some (.int .i64 ((rd_T44 t444 x12_3).f2)) := (blk_cell BK452.out 2).trans rfl; have hfz40_0 := blk_frozen BK452.out 0; have hfz40_1 := blk_frozen BK452.out 1; have hfz40_2 := blk_frozen BK452.out 2
                              go_wp2
                              repeat (go_quiet (fail); try go_wp2)
                              go_ret
                              exact ⟨by first | rfl | (simp [errW_none, errW_some] <;> rfl) | (simp [*, errW_none, errW_some] <;> rfl), hbT HB.out⟩
                            · rw [if_neg c39] at H
                              have c39b0 : decide ((t442.size : Int) < (wrap64 (((rd_T44 t444 x12_3).f2) + (((rd_T44 t444 x12_3).f1).size : Int)))) = false := decide_eq_false c39
                              clear c39
                              by_cases c41 : 0 ≤ ((rd_T44 t444 x12_3).f2)
                              · rw [if_pos c41] at H
                                have c41b0 := eq_true c41
                                have c41b1 : decide (0 ≤ ((rd_T44 t444 x12_3).f2)) = true := decide_eq_true c41
                                clear c41
                                by_cases c42 : ((rd_T44 t444 x12_3).f2) ≤ (wrap64 (((rd_T44 t444 x12_3).f2) + (((rd_T44 t444 x12_3).f1).size : Int)))
                                · rw [if_pos c42] at H
                                  have c42b0 := eq_true c42
                                  have c42b1 : decide (((rd_T44 t444 x12_3).f2) ≤ (wrap64 (((rd_T44 t444 x12_3).f2) + (((rd_T44 t444 x12_3).f1).size : Int)))) = true := decide_eq_true c42
                                  by_cases c43 : (wrap64 (((rd_T44 t444 x12_3).f2) + (((rd_T44 t444 x12_3).f1).size : Int))) ≤ (t442.size : Int)
                                  · rw [if_pos c43] at H
                                    have c43b0 := eq_true c43
                                    have c43b1 : decide ((wrap64 (((rd_T44 t444 x12_3).f2) + (((rd_T44 t444 x12_3).f1).size : Int))) ≤ (t442.size : Int)) = true := decide_eq_true c43
                                    by_cases c44 : (t442.extract (((rd_T44 t444 x12_3).f2) : Int).toNat ((wrap64 (((rd_T44 t444 x12_3).f2) + (((rd_T44 t444 x12_3).f1).size : Int))) : Int).toNat).toList = ((rd_T44 t444 x12_3).f1).toList
                                    · rw [if_pos c44] at H
                                      have c44b0 : ((t442.extract (((rd_T44 t444 x12_3).f2) : Int).toNat ((wrap64 (((rd_T44 t444 x12_3).f2) + (((rd_T44 t444 x12_3).f1).size : Int))) : Int).toNat).toList == ((rd_T44 t444 x12_3).f1).toList) = true := beq_iff_eq.mpr c44
                                      have c44b1 : ((t442.extract (((rd_T44 t444 x12_3).f2) : Int).toNat ((wrap64 (((rd_T44 t444 x12_3).f2) + (((rd_T44 t444 x12_3).f1).size : Int))) : Int).toNat).toList != ((rd_T44 t444 x12_3).f1).toList) = false := bne_eq_false_iff_eq.mpr c44
                                      clear c44
                                      have H' := Aside0.mk H
                                      clear H; have hcz45_0 : wc.cell? ⟨gb452, 0, none⟩ = some (.int .i64 ((rd_T44 t444 x12_3).f0)) := (blk_cell BK452.out 0).trans rfl
                                      have hcz45_1 : wc.cell? ⟨gb452, 1, none⟩ = some (.string ((rd_T44 t444 x12_3).f1)) := (blk_cell BK452.out 1).trans rfl; have hcz45_2 : wc.cell? ⟨gb452, 2, none⟩ = some (.int .i64 ((rd_T44 t444 x12_3).f2)) := (blk_cell BK452.out 2).trans rfl; have hfz45_0 := blk_frozen BK452.out 0; have hfz45_1 := blk_frozen BK452.out 1; have hfz45_2 := blk_frozen BK452.out 2
                                      go_wp2
                                      repeat (go_quiet (fail); try go_wp2)
                                      go_roundg kj25
                                      case measure => have := HJ1.out; have := HJ13.out; have := HK3.out; have := HJ25.out; omega
                                      case rel => exact ⟨(((rd_T44 t444 x12_3).f2)), (wrap64 (x12_3 + 1)), (by first | rfl | (simp; done) | (simp [*]; done) | (simp; unfold wrap64; omega) | (congr 1; (try rw [Bool.eq_iff_iff]); simp [List.isEmpty_iff]; done)), (by first | rfl | (simp; done) | (simp [*]; done) | (simp; unfold wrap64; omega) | (congr 1; (try rw [Bool.eq_iff_iff]); simp [List.isEmpty_iff]; done)), H', ⟨by have := HJ1.out; have := HJ13.out; have := HK3.out; have := HJ25.out; omega⟩, ⟨by (with_reducible repeat (first | apply Kd.R_alloc | apply Kd.R_drewN | apply Kd.R_drew)); exact Kd.R_mono HO_8.out (fun _ hk => trivial)⟩, ⟨hbT HB.out⟩⟩
                                    · rw [if_neg c44] at H
                                      have c44b0 : ((t442.extract (((rd_T44 t444 x12_3).f2) : Int).toNat ((wrap64 (((rd_T44 t444 x12_3).f2) + (((rd_T44 t444 x12_3).f1).size : Int))) : Int).toNat).toList == ((rd_T44 t444 x12_3).f1).toList) = false := beq_eq_false_iff_ne.mpr c44
                                      have c44b1 : ((t442.extract (((rd_T44 t444 x12_3).f2) : Int).toNat ((wrap64 (((rd_T44 t444 x12_3).f2) + (((rd_T44 t444 x12_3).f1).size : Int))) : Int).toNat).toList != ((rd_T44 t444 x12_3).f1).toList) = true := bne_iff_ne.mpr c44
                                      obtain rfl := Option.some.inj H
                                      have hcz46_0 : wc.cell? ⟨gb452, 0, none⟩ = some (.int .i64 ((rd_T44 t444 x12_3).f0)) := (blk_cell BK452.out 0).trans rfl; have hcz46_1 : wc.cell? ⟨gb452, 1, none⟩ = some (.string ((rd_T44 t444 x12_3).f1)) := (blk_cell BK452.out 1).trans rfl; have hcz46_2 : wc.cell? ⟨gb452, 2, none⟩ = some (.int .i64 ((rd_T44 t444 x12_3).f2)) := (blk_cell BK452.out 2).trans rfl; have hfz46_0 := blk_frozen BK452.out 0; have hfz46_1 := blk_frozen BK452.out 1; have hfz46_2 := blk_frozen BK452.out 2
                                      go_wp2
                                      repeat (go_quiet (fail); try go_wp2)
                                      go_ret
                                      exact ⟨by first | rfl | (simp [errW_none, errW_some] <;> rfl) | (simp [*, errW_none, errW_some] <;> rfl), hbT HB.out⟩
                                  · rw [if_neg c43] at H
                                    exact absurd H (by simp)
                                · rw [if_neg c42] at H
                                  exact absurd H (by simp)
                              · rw [if_neg c41] at H
                                exact absurd H (by simp)
                          · rw [if_neg c38] at H
                            have c38b0 : (((rd_T44 t444 x12_3).f0) == 1) = false := beq_eq_false_iff_ne.mpr c38
                            have c38b1 : (((rd_T44 t444 x12_3).f0) != 1) = true := bne_iff_ne.mpr c38
                            by_cases c47 : ((rd_T44 t444 x12_3).f0) = 2
                            · rw [if_pos c47] at H
                              have c47b0 : (((rd_T44 t444 x12_3).f0) == 2) = true := beq_iff_eq.mpr c47
                              have c47b1 : (((rd_T44 t444 x12_3).f0) != 2) = false := bne_eq_false_iff_eq.mpr c47
                              clear c47
                              by_cases c48 : (wrap64 (((rd_T44 t444 x12_3).f2) + (((rd_T44 t444 x12_3).f1).size : Int))) > (t442.size : Int)
                              · rw [if_pos c48] at H
                                have c48b0 : decide ((t442.size : Int) < (wrap64 (((rd_T44 t444 x12_3).f2) + (((rd_T44 t444 x12_3).f1).size : Int)))) = true := decide_eq_true c48
                                clear c48
                                obtain rfl := Option.some.inj H
                                have hcz49_0 : wc.cell? ⟨gb452, 0, none⟩ = some (.int .i64 ((rd_T44 t444 x12_3).f0)) := (blk_cell BK452.out 0).trans rfl; have hcz49_1 : wc.cell? ⟨gb452, 1, none⟩ = some (.string ((rd_T44 t444 x12_3).f1)) := (blk_cell BK452.out 1).trans rfl; have hcz49_2 : wc.cell? ⟨gb452, 2, none⟩ = some (.int .i64 ((rd_T44 t444 x12_3).f2)) := (blk_cell BK452.out 2).trans rfl; have hfz49_0 := blk_frozen BK452.out 0; have hfz49_1 := blk_frozen BK452.out 1; have hfz49_2 := blk_frozen BK452.out 2
                                go_wp2
                                repeat (go_quiet (fail); try go_wp2)
                                go_ret
                                exact ⟨by first | rfl | (simp [errW_none, errW_some] <;> rfl) | (simp [*, errW_none, errW_some] <;> rfl), hbT HB.out⟩
                              · rw [if_neg c48] at H
                                have c48b0 : decide ((t442.size : Int) < (wrap64 (((rd_T44 t444 x12_3).f2) + (((rd_T44 t444 x12_3).f1).size : Int)))) = false := decide_eq_false c48
                                clear c48
                                by_cases c50 : 0 ≤ ((rd_T44 t444 x12_3).f2)
                                · rw [if_pos c50] at H
                                  have c50b0 := eq_true c50
                                  have c50b1 : decide (0 ≤ ((rd_T44 t444 x12_3).f2)) = true := decide_eq_true c50
                                  clear c50
                                  by_cases c51 : ((rd_T44 t444 x12_3).f2) ≤ (wrap64 (((rd_T44 t444 x12_3).f2) + (((rd_T44 t444 x12_3).f1).size : Int)))
                                  · rw [if_pos c51] at H
                                    have c51b0 := eq_true c51
                                    have c51b1 : decide (((rd_T44 t444 x12_3).f2) ≤ (wrap64 (((rd_T44 t444 x12_3).f2) + (((rd_T44 t444 x12_3).f1).size : Int)))) = true := decide_eq_true c51
                                    by_cases c52 : (wrap64 (((rd_T44 t444 x12_3).f2) + (((rd_T44 t444 x12_3).f1).size : Int))) ≤ (t442.size : Int)
                                    · rw [if_pos c52] at H
                                      have c52b0 := eq_true c52
                                      have c52b1 : decide ((wrap64 (((rd_T44 t444 x12_3).f2) + (((rd_T44 t444 x12_3).f1).size : Int))) ≤ (t442.size : Int)) = true := decide_eq_true c52
                                      by_cases c53 : (t442.extract (((rd_T44 t444 x12_3).f2) : Int).toNat ((wrap64 (((rd_T44 t444 x12_3).f2) + (((rd_T44 t444 x12_3).f1).size : Int))) : Int).toNat).toList = ((rd_T44 t444 x12_3).f1).toList
                                      · rw [if_pos c53] at H
                                        have c53b0 : ((t442.extract (((rd_T44 t444 x12_3).f2) : Int).toNat ((wrap64 (((rd_T44 t444 x12_3).f2) + (((rd_T44 t444 x12_3).f1).size : Int))) : Int).toNat).toList == ((rd_T44 t444 x12_3).f1).toList) = true := beq_iff_eq.mpr c53
                                        have c53b1 : ((t442.extract (((rd_T44 t444 x12_3).f2) : Int).toNat ((wrap64 (((rd_T44 t444 x12_3).f2) + (((rd_T44 t444 x12_3).f1).size : Int))) : Int).toNat).toList != ((rd_T44 t444 x12_3).f1).toList) = false := bne_eq_false_iff_eq.mpr c53
                                        clear c53
                                        have H' := Aside0.mk H
                                        clear H; have hcz54_0 : wc.cell? ⟨gb452, 0, none⟩ = some (.int .i64 ((rd_T44 t444 x12_3).f0)) := (blk_cell BK452.out 0).trans rfl
                                        have hcz54_1 : wc.cell? ⟨gb452, 1, none⟩ = some (.string ((rd_T44 t444 x12_3).f1)) := (blk_cell BK452.out 1).trans rfl; have hcz54_2 : wc.cell? ⟨gb452, 2, none⟩ = some (.int .i64 ((rd_T44 t444 x12_3).f2)) := (blk_cell BK452.out 2).trans rfl; have hfz54_0 := blk_frozen BK452.out 0; have hfz54_1 := blk_frozen BK452.out 1; have hfz54_2 := blk_frozen BK452.out 2
                                        go_wp2
                                        repeat (go_quiet (fail); try go_wp2)
                                        go_roundg kj25
                                        case measure => have := HJ1.out; have := HJ13.out; have := HK3.out; have := HJ25.out; omega
                                        case rel => exact ⟨(((rd_T44 t444 x12_3).f2)), (wrap64 (x12_3 + 1)), (by first | rfl | (simp; done) | (simp [*]; done) | (simp; unfold wrap64; omega) | (congr 1; (try rw [Bool.eq_iff_iff]); simp [List.isEmpty_iff]; done)), (by first | rfl | (simp; done) | (simp [*]; done) | (simp; unfold wrap64; omega) | (congr 1; (try rw [Bool.eq_iff_iff]); simp [List.isEmpty_iff]; done)), H', ⟨by have := HJ1.out; have := HJ13.out; have := HK3.out; have := HJ25.out; omega⟩, ⟨by (with_reducible repeat (first | apply Kd.R_alloc | apply Kd.R_drewN | apply Kd.R_drew)); exact Kd.R_mono HO_8.out (fun _ hk => trivial)⟩, ⟨hbT HB.out⟩⟩
                                      · rw [if_neg c53] at H
                                        have c53b0 : ((t442.extract (((rd_T44 t444 x12_3).f2) : Int).toNat ((wrap64 (((rd_T44 t444 x12_3).f2) + (((rd_T44 t444 x12_3).f1).size : Int))) : Int).toNat).toList == ((rd_T44 t444 x12_3).f1).toList) = false := beq_eq_false_iff_ne.mpr c53
                                        have c53b1 : ((t442.extract (((rd_T44 t444 x12_3).f2) : Int).toNat ((wrap64 (((rd_T44 t444 x12_3).f2) + (((rd_T44 t444 x12_3).f1).size : Int))) : Int).toNat).toList != ((rd_T44 t444 x12_3).f1).toList) = true := bne_iff_ne.mpr c53
                                        obtain rfl := Option.some.inj H
                                        have hcz55_0 : wc.cell? ⟨gb452, 0, none⟩ = some (.int .i64 ((rd_T44 t444 x12_3).f0)) := (blk_cell BK452.out 0).trans rfl; have hcz55_1 : wc.cell? ⟨gb452, 1, none⟩ = some (.string ((rd_T44 t444 x12_3).f1)) := (blk_cell BK452.out 1).trans rfl; have hcz55_2 : wc.cell? ⟨gb452, 2, none⟩ = some (.int .i64 ((rd_T44 t444 x12_3).f2)) := (blk_cell BK452.out 2).trans rfl; have hfz55_0 := blk_frozen BK452.out 0; have hfz55_1 := blk_frozen BK452.out 1; have hfz55_2 := blk_frozen BK452.out 2
                                        go_wp2
                                        repeat (go_quiet (fail); try go_wp2)
                                        go_ret
                                        exact ⟨by first | rfl | (simp [errW_none, errW_some] <;> rfl) | (simp [*, errW_none, errW_some] <;> rfl), hbT HB.out⟩
                                    · rw [if_neg c52] at H
                                      exact absurd H (by simp)
                                  · rw [if_neg c51] at H
                                    exact absurd H (by simp)
                                · rw [if_neg c50] at H
                                  exact absurd H (by simp)
                            · rw [if_neg c47] at H
                              have c47b0 : (((rd_T44 t444 x12_3).f0) == 2) = false := beq_eq_false_iff_ne.mpr c47
                              have c47b1 : (((rd_T44 t444 x12_3).f0) != 2) = true := bne_iff_ne.mpr c47
                              by_cases c56 : ((rd_T44 t444 x12_3).f0) = 4
                              · rw [if_pos c56] at H
                                have c56b0 : (((rd_T44 t444 x12_3).f0) == 4) = true := beq_iff_eq.mpr c56
                                have c56b1 : (((rd_T44 t444 x12_3).f0) != 4) = false := bne_eq_false_iff_eq.mpr c56
                                clear c56
                                by_cases c57 : (wrap64 (((rd_T44 t444 x12_3).f2) + (((rd_T44 t444 x12_3).f1).size : Int))) > (t442.size : Int)
                                · rw [if_pos c57] at H
                                  have c57b0 : decide ((t442.size : Int) < (wrap64 (((rd_T44 t444 x12_3).f2) + (((rd_T44 t444 x12_3).f1).size : Int)))) = true := decide_eq_true c57
                                  clear c57
                                  obtain rfl := Option.some.inj H
                                  have hcz58_0 : wc.cell? ⟨gb452, 0, none⟩ = some (.int .i64 ((rd_T44 t444 x12_3).f0)) := (blk_cell BK452.out 0).trans rfl; have hcz58_1 : wc.cell? ⟨gb452, 1, none⟩ = some (.string ((rd_T44 t444 x12_3).f1)) := (blk_cell BK452.out 1).trans rfl; have hcz58_2 : wc.cell? ⟨gb452, 2, none⟩ = some (.int .i64 ((rd_T44 t444 x12_3).f2)) := (blk_cell BK452.out 2).trans rfl; have hfz58_0 := blk_frozen BK452.out 0; have hfz58_1 := blk_frozen BK452.out 1; have hfz58_2 := blk_frozen BK452.out 2
                                  go_wp2
                                  repeat (go_quiet (fail); try go_wp2)
                                  go_ret
                                  exact ⟨by first | rfl | (simp [errW_none, errW_some] <;> rfl) | (simp [*, errW_none, errW_some] <;> rfl), hbT HB.out⟩
                                · rw [if_neg c57] at H
                                  have c57b0 : decide ((t442.size : Int) < (wrap64 (((rd_T44 t444 x12_3).f2) + (((rd_T44 t444 x12_3).f1).size : Int)))) = false := decide_eq_false c57
                                  clear c57
                                  by_cases c59 : 0 ≤ ((rd_T44 t444 x12_3).f2)
                                  · rw [if_pos c59] at H
                                    have c59b0 := eq_true c59
                                    have c59b1 : decide (0 ≤ ((rd_T44 t444 x12_3).f2)) = true := decide_eq_true c59
                                    clear c59
                                    by_cases c60 : ((rd_T44 t444 x12_3).f2) ≤ (wrap64 (((rd_T44 t444 x12_3).f2) + (((rd_T44 t444 x12_3).f1).size : Int)))
                                    · rw [if_pos c60] at H
                                      have c60b0 := eq_true c60
                                      have c60b1 : decide (((rd_T44 t444 x12_3).f2) ≤ (wrap64 (((rd_T44 t444 x12_3).f2) + (((rd_T44 t444 x12_3).f1).size : Int)))) = true := decide_eq_true c60
                                      by_cases c61 : (wrap64 (((rd_T44 t444 x12_3).f2) + (((rd_T44 t444 x12_3).f1).size : Int))) ≤ (t442.size : Int)
                                      · rw [if_pos c61] at H
                                        have c61b0 := eq_true c61
                                        have c61b1 : decide ((wrap64 (((rd_T44 t444 x12_3).f2) + (((rd_T44 t444 x12_3).f1).size : Int))) ≤ (t442.size : Int)) = true := decide_eq_true c61
                                        by_cases c62 : (t442.extract (((rd_T44 t444 x12_3).f2) : Int).toNat ((wrap64 (((rd_T44 t444 x12_3).f2) + (((rd_T44 t444 x12_3).f1).size : Int))) : Int).toNat).toList = ((rd_T44 t444 x12_3).f1).toList
                                        · rw [if_pos c62] at H
                                          have c62b0 : ((t442.extract (((rd_T44 t444 x12_3).f2) : Int).toNat ((wrap64 (((rd_T44 t444 x12_3).f2) + (((rd_T44 t444 x12_3).f1).size : Int))) : Int).toNat).toList == ((rd_T44 t444 x12_3).f1).toList) = true := beq_iff_eq.mpr c62
                                          have c62b1 : ((t442.extract (((rd_T44 t444 x12_3).f2) : Int).toNat ((wrap64 (((rd_T44 t444 x12_3).f2) + (((rd_T44 t444 x12_3).f1).size : Int))) : Int).toNat).toList != ((rd_T44 t444 x12_3).f1).toList) = false := bne_eq_false_iff_eq.mpr c62
                                          clear c62
                                          have H' := Aside0.mk H
                                          clear H; have hcz63_0 : wc.cell? ⟨gb452, 0, none⟩ = some (.int .i64 ((rd_T44 t444 x12_3).f0)) := (blk_cell BK452.out 0).trans rfl
                                          have hcz63_1 : wc.cell? ⟨gb452, 1, none⟩ = some (.string ((rd_T44 t444 x12_3).f1)) := (blk_cell BK452.out 1).trans rfl; have hcz63_2 : wc.cell? ⟨gb452, 2, none⟩ = some (.int .i64 ((rd_T44 t444 x12_3).f2)) := (blk_cell BK452.out 2).trans rfl; have hfz63_0 := blk_frozen BK452.out 0; have hfz63_1 := blk_frozen BK452.out 1; have hfz63_2 := blk_frozen BK452.out 2
                                          go_wp2
                                          repeat (go_quiet (fail); try go_wp2)
                                          go_roundg kj25
                                          case measure => have := HJ1.out; have := HJ13.out; have := HK3.out; have := HJ25.out; omega
                                          case rel => exact ⟨(((rd_T44 t444 x12_3).f2)), (wrap64 (x12_3 + 1)), (by first | rfl | (simp; done) | (simp [*]; done) | (simp; unfold wrap64; omega) | (congr 1; (try rw [Bool.eq_iff_iff]); simp [List.isEmpty_iff]; done)), (by first | rfl | (simp; done) | (simp [*]; done) | (simp; unfold wrap64; omega) | (congr 1; (try rw [Bool.eq_iff_iff]); simp [List.isEmpty_iff]; done)), H', ⟨by have := HJ1.out; have := HJ13.out; have := HK3.out; have := HJ25.out; omega⟩, ⟨by (with_reducible repeat (first | apply Kd.R_alloc | apply Kd.R_drewN | apply Kd.R_drew)); exact Kd.R_mono HO_8.out (fun _ hk => trivial)⟩, ⟨hbT HB.out⟩⟩
                                        · rw [if_neg c62] at H
                                          have c62b0 : ((t442.extract (((rd_T44 t444 x12_3).f2) : Int).toNat ((wrap64 (((rd_T44 t444 x12_3).f2) + (((rd_T44 t444 x12_3).f1).size : Int))) : Int).toNat).toList == ((rd_T44 t444 x12_3).f1).toList) = false := beq_eq_false_iff_ne.mpr c62
                                          have c62b1 : ((t442.extract (((rd_T44 t444 x12_3).f2) : Int).toNat ((wrap64 (((rd_T44 t444 x12_3).f2) + (((rd_T44 t444 x12_3).f1).size : Int))) : Int).toNat).toList != ((rd_T44 t444 x12_3).f1).toList) = true := bne_iff_ne.mpr c62
                                          obtain rfl := Option.some.inj H
                                          have hcz64_0 : wc.cell? ⟨gb452, 0, none⟩ = some (.int .i64 ((rd_T44 t444 x12_3).f0)) := (blk_cell BK452.out 0).trans rfl; have hcz64_1 : wc.cell? ⟨gb452, 1, none⟩ = some (.string ((rd_T44 t444 x12_3).f1)) := (blk_cell BK452.out 1).trans rfl; have hcz64_2 : wc.cell? ⟨gb452, 2, none⟩ = some (.int .i64 ((rd_T44 t444 x12_3).f2)) := (blk_cell BK452.out 2).trans rfl; have hfz64_0 := blk_frozen BK452.out 0; have hfz64_1 := blk_frozen BK452.out 1; have hfz64_2 := blk_frozen BK452.out 2
                                          go_wp2
                                          repeat (go_quiet (fail); try go_wp2)
                                          go_ret
                                          exact ⟨by first | rfl | (simp [errW_none, errW_some] <;> rfl) | (simp [*, errW_none, errW_some] <;> rfl), hbT HB.out⟩
                                      · rw [if_neg c61] at H
                                        exact absurd H (by simp)
                                    · rw [if_neg c60] at H
                                      exact absurd H (by simp)
                                  · rw [if_neg c59] at H
                                    exact absurd H (by simp)
                              · rw [if_neg c56] at H
                                have c56b0 : (((rd_T44 t444 x12_3).f0) == 4) = false := beq_eq_false_iff_ne.mpr c56
                                have c56b1 : (((rd_T44 t444 x12_3).f0) != 4) = true := bne_iff_ne.mpr c56
                                have H' := Aside0.mk H
                                clear H; have hcz65_0 : wc.cell? ⟨gb452, 0, none⟩ = some (.int .i64 ((rd_T44 t444 x12_3).f0)) := (blk_cell BK452.out 0).trans rfl
                                have hcz65_1 : wc.cell? ⟨gb452, 1, none⟩ = some (.string ((rd_T44 t444 x12_3).f1)) := (blk_cell BK452.out 1).trans rfl; have hcz65_2 : wc.cell? ⟨gb452, 2, none⟩ = some (.int .i64 ((rd_T44 t444 x12_3).f2)) := (blk_cell BK452.out 2).trans rfl; have hfz65_0 := blk_frozen BK452.out 0; have hfz65_1 := blk_frozen BK452.out 1; have hfz65_2 := blk_frozen BK452.out 2
                                go_wp2
                                repeat (go_quiet (fail); try go_wp2)
                                go_roundg kj25
                                case measure => have := HJ1.out; have := HJ13.out; have := HK3.out; have := HJ25.out; omega
                                case rel => exact ⟨(((rd_T44 t444 x12_3).f2)), (wrap64 (x12_3 + 1)), (by first | rfl | (simp; done) | (simp [*]; done) | (simp; unfold wrap64; omega) | (congr 1; (try rw [Bool.eq_iff_iff]); simp [List.isEmpty_iff]; done)), (by first | rfl | (simp; done) | (simp [*]; done) | (simp; unfold wrap64; omega) | (congr 1; (try rw [Bool.eq_iff_iff]); simp [List.isEmpty_iff]; done)), H', ⟨by have := HJ1.out; have := HJ13.out; have := HK3.out; have := HJ25.out; omega⟩, ⟨by (with_reducible repeat (first | apply Kd.R_alloc | apply Kd.R_drewN | apply Kd.R_drew)); exact Kd.R_mono HO_8.out (fun _ hk => trivial)⟩, ⟨hbT HB.out⟩⟩
                  · rw [if_neg c25] at H
                    exact absurd H (by simp)
                · rw [if_neg c24] at H
                  have c24b0 : decide (x12_3 < (t444.length : Int)) = false := decide_eq_false c24
                  clear c24
                  obtain ⟨ji66, hji66⟩ : ∃ j_ : Int, (wrap64 ((t444.length : Int) - 1)) = j_ := ⟨_, rfl⟩
                  replace H : (if 0 ≤ (ji66) then (if (ji66) < (t444.length : Int) then (some (((rd_T44 t444 (ji66)).f2) == (t442.size : Int))) else (none)) else (none)) = some r := by first | (rw [hji66] at H; exact H) | (simp only [hji66] at H ⊢; exact H)
                  have hji66w : (IntKind.i64.wrap ((t444.length : Int) - 1)) = ji66 := (i64_w _).trans hji66
                  by_cases c67 : 0 ≤ (ji66)
                  · rw [if_pos c67] at H
                    have c67b0 : decide (0 ≤ (ji66)) = true := decide_eq_true c67
                    clear c67
                    by_cases c68 : (ji66) < (t444.length : Int)
                    · rw [if_pos c68] at H
                      have c68b0 : decide ((ji66) < (t444.length : Int)) = true := decide_eq_true c68
                      clear c68
                      obtain rfl := Option.some.inj H
                      obtain ⟨Ao69, co69, eo69⟩ := Kd.R_slice HO_8.out
                      subst eo69
                      have p450 : 0 ≤ ((ji66) : Int) := of_decide_eq_true (by first | (with_reducible assumption) | assumption)
                      have q450 : (ji66) < (t444.length : Int) := of_decide_eq_true (by first | (with_reducible assumption) | assumption)
                      obtain ⟨ad450, e450, hx450_0, hx450_1, hx450_2⟩ := at_T44 (Kd.R_reads' HO_8.out).2.2 (ji66) p450 q450
                      cases e450
                      replace p450 := eq_true p450
                      replace q450 := eq_true q450
                      go_wp2
                      repeat (go_quiet (fail); try go_wp2)
                      go_ret
                      exact ⟨by first | rfl | (simp [errW_none, errW_some] <;> rfl) | (simp only [← hji66]; first | rfl | (simp [errW_none, errW_some] <;> rfl)) | (simp [*, errW_none, errW_some] <;> rfl), hbT HB.out⟩
                    · rw [if_neg c68] at H
                      exact absurd H (by simp)
                  · rw [if_neg c67] at H
                    exact absurd H (by simp)

end Go.Proofs.YthmcapdakplhdaaDoor.Pr

-- printed by a patched copy of the kit's print, for this seat
import Derived.Test.YthmcapdakplhdaaDoorPrx0
import Derived.Test.YthmcapdakplhdaaDoorPrx11
import Derived.Test.YthmcapdakplhdaaDoorPrx14
import Derived.Test.YthmcapdakplhdaaDoorPrx17
import Derived.Test.YthmcapdakplhdaaDoorPrx19
import Derived.Test.YthmcapdakplhdaaDoorExtTok3
namespace Go.Proofs.YthmcapdakplhdaaDoor.Pr
open Go.RowKit Go.Proofs.YthmcapdakplhdaaDoorW.PrintWords Go.Proofs.YthmcapdakplhdaaDoorW.PrintLast Go.Proofs.YthmcapdakplhdaaDoorW.PrintMore
attribute [local go_sem] max2_int min2_int max_two min_two max_three min_three max_four min_four   -- for this text's walks alone
attribute [local go_sem high] Go.Proofs.YthmcapdakplhdaaDoor.isSome_setCell
set_option maxRecDepth 100000
set_option linter.unusedVariables false
set_option linter.unusedSimpArgs false

/-! ### refrainlaw5_TokenFilled: function 10 -/
mutual
def refrainlaw5_TokenFilled.l0 : Nat → List (S44) → List Int → ByteArray → List (S44) → ByteArray → Int → Option (Bool)
  | 0, _, _, _, _, _, _ => none
  | k + 1, x0, x1, x2, x7, x8, x9 => if x9 < (x0.length : Int) then (refrainlaw5_TokenFilled.j1 k x0 x1 x2 x7 x8 x9 (decide (x9 < 8))) else (refrainlaw5_TokenFilled.j1 k x0 x1 x2 x7 x8 x9 false)
def refrainlaw5_TokenFilled.j1 : Nat → List (S44) → List Int → ByteArray → List (S44) → ByteArray → Int → Bool → Option (Bool)
  | 0, _, _, _, _, _, _, _ => none
  | k + 1, x0, x1, x2, x7, x8, x9, x24 => if x24 = true then (if 0 ≤ x9 then (if x9 < (x0.length : Int) then ((refrainlaw5_plainest.f k ((rd_T44 x0 x9).f0) ((rd_T44 x0 x9).f1) ((rd_T44 x0 x9).f2)).bind fun bt464 => (if (bt464.2.1.size : Int) > 60 then (if 0 ≤ 60 then (if 60 ≤ (bt464.2.1.size : Int) then (refrainlaw5_TokenFilled.j2 k x0 x1 x2 x7 x8 x9 bt464.1 (bt464.2.1.extract 0 60) bt464.2.2) else (none)) else (none)) else (refrainlaw5_TokenFilled.j2 k x0 x1 x2 x7 x8 x9 bt464.1 bt464.2.1 bt464.2.2))) else (none)) else (none)) else ((refrainlaw5_filler.f k 3 x2).bind fun t456 => (if x8.size + t456.size ≤ 9223372036854775807 then ((token_Scan.f k (x8 ++ t456)).bind fun bt457 => (if bt457.2.2 = 0 then (if bt457.2.1 = 0 then ((refrainlaw5_alike.f k x7 bt457.1).bind fun t462 => (some t462)) else (some false)) else (some false))) else (none)))
def refrainlaw5_TokenFilled.j2 : Nat → List (S44) → List Int → ByteArray → List (S44) → ByteArray → Int → Int → ByteArray → Int → Option (Bool)
  | 0, _, _, _, _, _, _, _, _, _ => none
  | k + 1, x0, x1, x2, x7, x8, x9, x468000, x468001, x468002 => (token_Spell.f (([(⟨x468000, x468001, x468002⟩ : S44)] : List (S44)))).bind fun bt471 => (if bt471.2 = 0 then (if x7.length < 4398046511104 then ((some (x7 ++ [(⟨x468000, x468001, x468002⟩ : S44)] : List (S44))).bind fun y473 => (if x9 < (x1.length : Int) then (if 0 ≤ x9 then ((refrainlaw5_filler.f k (rd x1 x9) x2).bind fun t477 => (if x8.size + t477.size ≤ 9223372036854775807 then (if (x8 ++ t477).size + bt471.1.size ≤ 9223372036854775807 then (refrainlaw5_TokenFilled.l0 k x0 x1 x2 y473 ((x8 ++ t477) ++ bt471.1) (wrap64 (x9 + 1))) else (none)) else (none))) else (none)) else ((refrainlaw5_filler.f k 4 x2).bind fun t478 => (if x8.size + t478.size ≤ 9223372036854775807 then (if (x8 ++ t478).size + bt471.1.size ≤ 9223372036854775807 then (refrainlaw5_TokenFilled.l0 k x0 x1 x2 y473 ((x8 ++ t478) ++ bt471.1) (wrap64 (x9 + 1))) else (none)) else (none))))) else (none)) else (some false))
end
def refrainlaw5_TokenFilled.f (k : Nat) (l0 : List (S44)) (l1 : List Int) (a2 : ByteArray) : Option (Bool) := refrainlaw5_TokenFilled.l0 k l0 l1 a2 ([] : List (S44)) (⟨#[]⟩ : ByteArray) 0
set_option maxRecDepth 100000 in
theorem refrainlaw5_TokenFilled.l0_zero : ∀ y0 y1 y2 y3 y4 y5, refrainlaw5_TokenFilled.l0 0 y0 y1 y2 y3 y4 y5 = none := fun _ _ _ _ _ _ => rfl
set_option maxRecDepth 100000 in
theorem refrainlaw5_TokenFilled.j1_zero : ∀ y0 y1 y2 y3 y4 y5 y6, refrainlaw5_TokenFilled.j1 0 y0 y1 y2 y3 y4 y5 y6 = none := fun _ _ _ _ _ _ _ => rfl
set_option maxRecDepth 100000 in
theorem refrainlaw5_TokenFilled.j2_zero : ∀ y0 y1 y2 y3 y4 y5 y6 y7 y8, refrainlaw5_TokenFilled.j2 0 y0 y1 y2 y3 y4 y5 y6 y7 y8 = none := fun _ _ _ _ _ _ _ _ _ => rfl
set_option maxRecDepth 100000 in
theorem refrainlaw5_TokenFilled.mono_l : ∀ k, (∀ y0 y1 y2 y3 y4 y5, LeO (refrainlaw5_TokenFilled.l0 k y0 y1 y2 y3 y4 y5) (refrainlaw5_TokenFilled.l0 (k + 1) y0 y1 y2 y3 y4 y5)) ∧ (∀ y0 y1 y2 y3 y4 y5 y6, LeO (refrainlaw5_TokenFilled.j1 k y0 y1 y2 y3 y4 y5 y6) (refrainlaw5_TokenFilled.j1 (k + 1) y0 y1 y2 y3 y4 y5 y6)) ∧ (∀ y0 y1 y2 y3 y4 y5 y6 y7 y8, LeO (refrainlaw5_TokenFilled.j2 k y0 y1 y2 y3 y4 y5 y6 y7 y8) (refrainlaw5_TokenFilled.j2 (k + 1) y0 y1 y2 y3 y4 y5 y6 y7 y8))
  | 0 => ⟨fun _ _ _ _ _ _ r h => by (unfold refrainlaw5_TokenFilled.l0 at h; cases h), fun _ _ _ _ _ _ _ r h => by (unfold refrainlaw5_TokenFilled.j1 at h; cases h), fun _ _ _ _ _ _ _ _ _ r h => by (unfold refrainlaw5_TokenFilled.j2 at h; cases h)⟩
  | k + 1 => by
    obtain ⟨ih0, ih1, ih2⟩ := refrainlaw5_TokenFilled.mono_l k
    refine ⟨?_, ?_, ?_⟩
    · intro y0 y1 y2 y3 y4 y5
      unfold refrainlaw5_TokenFilled.l0
      repeat' first
      | (with_reducible exact ih0 _ _ _ _ _ _)
      | (with_reducible exact ih1 _ _ _ _ _ _ _)
      | (with_reducible exact ih2 _ _ _ _ _ _ _ _ _)
      | (with_reducible exact refrainlaw5_alike.mono _ _ _)
      | (with_reducible exact refrainlaw5_filler.mono _ _ _)
      | (with_reducible exact refrainlaw5_plainest.mono _ _ _ _)
      | (with_reducible exact token_Scan.mono _ _)
      | (with_reducible exact LeO.refl _)
      | (with_reducible exact LeO.none _)
      | (with_reducible refine LeO.ite ?_ ?_)
      | (with_reducible refine LeO.bind ?_ (fun _ => ?_))
      | exact ih0 _ _ _ _ _ _
      | exact ih1 _ _ _ _ _ _ _
      | exact ih2 _ _ _ _ _ _ _ _ _
      | exact refrainlaw5_alike.mono _ _ _
      | exact refrainlaw5_filler.mono _ _ _
      | exact refrainlaw5_plainest.mono _ _ _ _
      | exact token_Scan.mono _ _
      | exact LeO.none _
      | refine LeO.ite ?_ ?_
      | refine LeO.bind ?_ (fun _ => ?_)
    · intro y0 y1 y2 y3 y4 y5 y6
      unfold refrainlaw5_TokenFilled.j1
      repeat' first
      | (with_reducible exact ih0 _ _ _ _ _ _)
      | (with_reducible exact ih1 _ _ _ _ _ _ _)
      | (with_reducible exact ih2 _ _ _ _ _ _ _ _ _)
      | (with_reducible exact refrainlaw5_alike.mono _ _ _)
      | (with_reducible exact refrainlaw5_filler.mono _ _ _)
      | (with_reducible exact refrainlaw5_plainest.mono _ _ _ _)
      | (with_reducible exact token_Scan.mono _ _)
      | (with_reducible exact LeO.refl _)
      | (with_reducible exact LeO.none _)
      | (with_reducible refine LeO.ite ?_ ?_)
      | (with_reducible refine LeO.bind ?_ (fun _ => ?_))
      | exact ih0 _ _ _ _ _ _
      | exact ih1 _ _ _ _ _ _ _
      | exact ih2 _ _ _ _ _ _ _ _ _
      | exact refrainlaw5_alike.mono _ _ _
      | exact refrainlaw5_filler.mono _ _ _
      | exact refrainlaw5_plainest.mono _ _ _ _
      | exact token_Scan.mono _ _
      | exact LeO.none _
      | refine LeO.ite ?_ ?_
      | refine LeO.bind ?_ (fun _ => ?_)
    · intro y0 y1 y2 y3 y4 y5 y6 y7 y8
      unfold refrainlaw5_TokenFilled.j2
      repeat' first
      | (with_reducible exact ih0 _ _ _ _ _ _)
      | (with_reducible exact ih1 _ _ _ _ _ _ _)
      | (with_reducible exact ih2 _ _ _ _ _ _ _ _ _)
      | (with_reducible exact refrainlaw5_alike.mono _ _ _)
      | (with_reducible exact refrainlaw5_filler.mono _ _ _)
      | (with_reducible exact refrainlaw5_plainest.mono _ _ _ _)
      | (with_reducible exact token_Scan.mono _ _)
      | (with_reducible exact LeO.refl _)
      | (with_reducible exact LeO.none _)
      | (with_reducible refine LeO.ite ?_ ?_)
      | (with_reducible refine LeO.bind ?_ (fun _ => ?_))
      | exact ih0 _ _ _ _ _ _
      | exact ih1 _ _ _ _ _ _ _
      | exact ih2 _ _ _ _ _ _ _ _ _
      | exact refrainlaw5_alike.mono _ _ _
      | exact refrainlaw5_filler.mono _ _ _
      | exact refrainlaw5_plainest.mono _ _ _ _
      | exact token_Scan.mono _ _
      | exact LeO.none _
      | refine LeO.ite ?_ ?_
      | refine LeO.bind ?_ (fun _ => ?_)
set_option maxRecDepth 100000 in
theorem refrainlaw5_TokenFilled.mono : ∀ a0 a1 a2 k, LeO (refrainlaw5_TokenFilled.f k a0 a1 a2) (refrainlaw5_TokenFilled.f (k + 1) a0 a1 a2) := by
  intro a0 a1 a2 k
  obtain ⟨ih0, ih1, ih2⟩ := refrainlaw5_TokenFilled.mono_l k
  unfold refrainlaw5_TokenFilled.f
  repeat' first
      | (with_reducible exact ih0 _ _ _ _ _ _)
      | (with_reducible exact ih1 _ _ _ _ _ _ _)
      | (with_reducible exact ih2 _ _ _ _ _ _ _ _ _)
      | (with_reducible exact refrainlaw5_alike.mono _ _ _)
      | (with_reducible exact refrainlaw5_filler.mono _ _ _)
      | (with_reducible exact refrainlaw5_plainest.mono _ _ _ _)
      | (with_reducible exact token_Scan.mono _ _)
      | (with_reducible exact LeO.refl _)
      | (with_reducible exact LeO.none _)
      | (with_reducible refine LeO.ite ?_ ?_)
      | (with_reducible refine LeO.bind ?_ (fun _ => ?_))
      | exact ih0 _ _ _ _ _ _
      | exact ih1 _ _ _ _ _ _ _
      | exact ih2 _ _ _ _ _ _ _ _ _
      | exact refrainlaw5_alike.mono _ _ _
      | exact refrainlaw5_filler.mono _ _ _
      | exact refrainlaw5_plainest.mono _ _ _ _
      | exact token_Scan.mono _ _
      | exact LeO.none _
      | refine LeO.ite ?_ ?_
      | refine LeO.bind ?_ (fun _ => ?_)
set_option maxHeartbeats 8000000 in
set_option maxRecDepth 100000 in
theorem refrainlaw5_TokenFilled.calls (k : Nat) (A0 : Option Addr) (c0 : Nat) (l0 : List (S44)) (A1 : Option Addr) (c1 : Nat) (l1 : List Int) (a2 : ByteArray) (r : Bool) (w : World) (hr0 : Kd.C k44 w A0 l0.length l0) (hc0 : l0.length ≤ c0) (hr1 : Kd.C (Kd.int .u8) w A1 l1.length l1) (hc1 : l1.length ≤ c1) (HL_LErr : Aside0 (LErr w)) (h : refrainlaw5_TokenFilled.f k l0 l1 a2 = some r) :
    Calls Tryd.prog 10 #[.slice A0 l0.length c0, .slice A1 l1.length c1, .string a2] w fun e w' => e = .returned (.bool r) ∧ Below w.heap.size w w' := by
  have hu44 := Tryd.underlying44
  have HR0 := Aside0.mk hr0
  have HC0 := Aside0.mk hc0
  clear hr0 hc0
  have HR1 := Aside0.mk hr1
  have HC1 := Aside0.mk hc1
  clear hr1 hc1
  have HB := Aside0.mk (Below.refl w.heap.size w)
  have H : (refrainlaw5_TokenFilled.l0 k l0 l1 a2 ([] : List (S44)) (⟨#[]⟩ : ByteArray) 0) = some r := h
  clear h
  have H' := Aside0.mk H
  clear H
  go_enter Tryd.func10, Tryd.ntmps10
  go_wp2
  go_loopg [7, 8, 9] k (fun kq v7 v8 v9 w' => ∃ (x7_1 : List (S44)) (x8_1 : ByteArray) (x9_1 : Int), v8 = .string x8_1 ∧ v9 = .int .i64 x9_1 ∧ Aside0 (refrainlaw5_TokenFilled.l0 kq l0 l1 a2 x7_1 x8_1 x9_1 = some r) ∧ Aside0 (kq ≤ k) ∧ Aside0 (Kd.R k44 44 w' w.heap.size (fun _ => True) v7 x7_1) ∧ Aside0 (Below w.heap.size w w'))
  case atStart => exact ⟨(([] : List (S44))), ((⟨#[]⟩ : ByteArray)), (0), (by first | rfl | (simp; done) | (simp [*]; done) | (simp; unfold wrap64; omega) | (congr 1; (try rw [Bool.eq_iff_iff]); simp [List.isEmpty_iff]; done)), (by first | rfl | (simp; done) | (simp [*]; done) | (simp; unfold wrap64; omega) | (congr 1; (try rw [Bool.eq_iff_iff]); simp [List.isEmpty_iff]; done)), H', ⟨Nat.le_refl _⟩, ⟨by first | exact Kd.R_nil _ _ _ _ _ | exact Kd.N_nil _ _ _ _ _ | exact Kd.V_nil _ _ _ _ _ | exact Kd.Q_nil _ _ _ _ _ | exact Kd.S_nil _ _ _ _ _⟩, ⟨hbT HB.out⟩⟩
  case round =>
    clear H'
    try clear c1
    try clear p2
    obtain ⟨x7_1, x8_1, x9_1, rfl, rfl, HA, HK1, HO_7, HB⟩ := hrel
    cases gk with
    | zero => (have HA2 := HA.out; clear HA; revert HA2; rw [refrainlaw5_TokenFilled.l0_zero]; intro h_; cases h_)
    | succ k1 =>
      have H := HA.out
      clear HA
      simp only [refrainlaw5_TokenFilled.l0] at H
      have HC4 := Aside0.mk H
      clear H
      go_upto_region 4 with (fail)
      go_cut [24] (fun v24 wc => ∃ (kq : Nat) (x24_3 : Bool), v24 = .bool x24_3 ∧ Aside0 (refrainlaw5_TokenFilled.j1 kq l0 l1 a2 x7_1 x8_1 x9_1 x24_3 = some r) ∧ Aside0 (kq ≤ k1) ∧ Aside0 (Kd.R k44 44 wc w.heap.size (fun _ => True) u7 x7_1) ∧ Aside0 (Below w.heap.size w wc))
      case first =>
        have H := HC4.out
        clear HC4
        by_cases c5 : x9_1 < (l0.length : Int)
        · rw [if_pos c5] at H
          have c5b0 : decide (x9_1 < (l0.length : Int)) = true := decide_eq_true c5
          clear c5
          (first | rw [c5b0] | (simp only [i64_w, i32_w, IntKind.wrap_u8, IntKind.wrap_u16, IntKind.wrap_u32]; rw [c5b0]) | skip)
          have H' := Aside0.mk H
          clear H
          go_wp2
          go_meet
          case rel => exact ⟨_, (decide (x9_1 < 8)), (by first | rfl | (simp; done) | (simp [*]; done) | (simp; unfold wrap64; omega) | (congr 1; (try rw [Bool.eq_iff_iff]); simp [List.isEmpty_iff]; done)), H', ⟨by have := HK1.out; first | omega | exact Nat.le_refl _⟩, ⟨by (with_reducible repeat (first | apply Kd.R_alloc | apply Kd.R_drewN | apply Kd.R_drew)); exact HO_7.out⟩, ⟨hbT HB.out⟩⟩
        · rw [if_neg c5] at H
          have c5b0 : decide (x9_1 < (l0.length : Int)) = false := decide_eq_false c5
          clear c5
          (first | rw [c5b0] | (simp only [i64_w, i32_w, IntKind.wrap_u8, IntKind.wrap_u16, IntKind.wrap_u32]; rw [c5b0]) | skip)
          have H' := Aside0.mk H
          clear H
          go_wp2
          go_meet
          case rel => exact ⟨_, (false), (by first | rfl | (simp; done) | (simp [*]; done) | (simp; unfold wrap64; omega) | (congr 1; (try rw [Bool.eq_iff_iff]); simp [List.isEmpty_iff]; done)), H', ⟨by have := HK1.out; first | omega | exact Nat.le_refl _⟩, ⟨by (with_reducible repeat (first | apply Kd.R_alloc | apply Kd.R_drewN | apply Kd.R_drew)); exact HO_7.out⟩, ⟨hbT HB.out⟩⟩
      case rest =>
        clear HC4
        try clear c1
        try clear p2
        try clear c5
        try clear c5b0
        try clear p2
        obtain ⟨kq, x24_3, rfl, HA, HJ3, HO_7, HB⟩ := hcut
        cases kq with
        | zero => (have HA2 := HA.out; clear HA; revert HA2; rw [refrainlaw5_TokenFilled.j1_zero]; intro h_; cases h_)
        | succ kj3 =>
          have H := HA.out
          clear HA
          simp only [refrainlaw5_TokenFilled.j1] at H
          by_cases c6 : x24_3 = true
          · subst c6
            have H1 : (if 0 ≤ x9_1 then (if x9_1 < (l0.length : Int) then ((refrainlaw5_plainest.f kj3 ((rd_T44 l0 x9_1).f0) ((rd_T44 l0 x9_1).f1) ((rd_T44 l0 x9_1).f2)).bind fun bt464 => (if (bt464.2.1.size : Int) > 60 then (if 0 ≤ 60 then (if 60 ≤ (bt464.2.1.size : Int) then (refrainlaw5_TokenFilled.j2 kj3 l0 l1 a2 x7_1 x8_1 x9_1 bt464.1 (bt464.2.1.extract 0 60) bt464.2.2) else (none)) else (none)) else (refrainlaw5_TokenFilled.j2 kj3 l0 l1 a2 x7_1 x8_1 x9_1 bt464.1 bt464.2.1 bt464.2.2))) else (none)) else (none)) = some r := by rw [if_pos rfl] at H; exact H
            clear H
            have H := H1
            clear H1
            by_cases c7 : 0 ≤ x9_1
            · rw [if_pos c7] at H
              have c7b0 : decide (0 ≤ x9_1) = true := decide_eq_true c7
              clear c7
              by_cases c8 : x9_1 < (l0.length : Int)
              · rw [if_pos c8] at H
                have c8b0 : decide (x9_1 < (l0.length : Int)) = true := decide_eq_true c8
                clear c8
                replace H := Option.bind_eq_some_iff.mp H
                obtain ⟨⟨t464, t465, t466⟩, A90, H⟩ := H
                replace H : (if (t465.size : Int) > 60 then (if 0 ≤ 60 then (if 60 ≤ (t465.size : Int) then (refrainlaw5_TokenFilled.j2 kj3 l0 l1 a2 x7_1 x8_1 x9_1 t464 (t465.extract 0 60) t466) else (none)) else (none)) else (refrainlaw5_TokenFilled.j2 kj3 l0 l1 a2 x7_1 x8_1 x9_1 t464 t465 t466)) = some r := H
                have A9 := Aside0.mk A90
                clear A90
                have HC10 := Aside0.mk H
                clear H
                have p463 : 0 ≤ (x9_1 : Int) := of_decide_eq_true (by first | (with_reducible assumption) | assumption)
                have q463 : x9_1 < (l0.length : Int) := of_decide_eq_true (by first | (with_reducible assumption) | assumption)
                obtain ⟨ad463, e463, hx463_0, hx463_1, hx463_2⟩ := at_T44 HR0.out x9_1 p463 q463
                cases e463
                replace hx463_0 := (HB.out.cell (World.block_lt_of_cell? w _ hx463_0)).trans hx463_0; replace hx463_1 := (HB.out.cell (World.block_lt_of_cell? w _ hx463_1)).trans hx463_1; replace hx463_2 := (HB.out.cell (World.block_lt_of_cell? w _ hx463_2)).trans hx463_2
                replace p463 := eq_true p463
                replace q463 := eq_true q463
                go_upto_if 35 with (first | ((with_reducible refine gate_callee (f := 22) rfl ?_); refine goesT (some 31) Tryd.func22 #[.agg #[.int .i64 ((rd_T44 l0 x9_1).f0), .string ((rd_T44 l0 x9_1).f1), .int .i64 ((rd_T44 l0 x9_1).f2)]] ?_; (with_reducible refine (refrainlaw5_plainest.calls kj3 ((rd_T44 l0 x9_1).f0) ((rd_T44 l0 x9_1).f1) ((rd_T44 l0 x9_1).f2) t464 t465 t466 _ A9.out).mono ?_); rintro e w11 ⟨rfl, hb⟩; refine ⟨_, rfl, ?_⟩; replace HO_7 := Aside0.mk (Kd.R_below (by (with_reducible repeat (first | apply Kd.R_alloc | apply Kd.R_drewN | apply Kd.R_drew)); exact HO_7.out) hb); replace HB := bsA HB hb; (try clear hb); (try clear hb2); (try clear hk); (try clear hi)) | ((with_reducible refine gate_dst (N := 10) rfl ?_); refine box_event ?hg (N := 10) ?hd (cs := #[.int .i64 0, .string (⟨#[]⟩ : ByteArray), .int .i64 0]) (t := 44) ?hr ?_; (case hd => rfl); (case hg => rfl); (case hr => first | (go_simp; done) | (go_simp; rfl)); intro gb467 hg w12 hbox hb; have BK467 := Aside0.mk hbox; have GW467 := geA hg HB; have GE467 := geA hg HB; replace HO_7 := Aside0.mk (Kd.R_below (Kd.R_elderB (by (with_reducible repeat (first | apply Kd.R_alloc | apply Kd.R_drewN | apply Kd.R_drew)); exact HO_7.out) gb467 (Nat.le_of_eq hg.symm)) hb); replace HB := bsA HB hb; clear hb hbox hg; have hcz13_0 : w12.cell? ⟨gb467, 0, none⟩ = some (.int .i64 0) := (blk_cell BK467.out 0).trans rfl; have hcz13_1 : w12.cell? ⟨gb467, 1, none⟩ = some (.string (⟨#[]⟩ : ByteArray)) := (blk_cell BK467.out 1).trans rfl; have hcz13_2 : w12.cell? ⟨gb467, 2, none⟩ = some (.int .i64 0) := (blk_cell BK467.out 2).trans rfl; have hfz13_0 := blk_frozen BK467.out 0; have hfz13_1 := blk_frozen BK467.out 1; have hfz13_2 := blk_frozen BK467.out 2))
                (try simp only [Act.put, List.setIfInBounds_toArray, List.set_cons_zero, List.set_cons_succ])
                go_cut [] (fun wc => ∃ (kq : Nat) (x468001_9 : ByteArray), Aside0 (refrainlaw5_TokenFilled.j2 kq l0 l1 a2 x7_1 x8_1 x9_1 t464 x468001_9 t466 = some r) ∧ Aside0 (kq ≤ kj3) ∧ Aside0 (Kd.R k44 44 wc w.heap.size (fun k_ => k_ ≠ gb467) u7 x7_1) ∧ Aside0 (wc.heap[gb467]? = some (.cells #[.int .i64 t464, .string x468001_9, .int .i64 t466] 44 (0, 0))) ∧ Aside0 (Below w.heap.size w wc))
                case first =>
                  have H := HC10.out
                  clear HC10
                  by_cases c14 : (t465.size : Int) > 60
                  · rw [if_pos c14] at H
                    have c14b0 : decide (60 < (t465.size : Int)) = true := decide_eq_true c14
                    have c14b1 : decide (60 < t465.size) = true := decide_eq_true (by omega)
                    clear c14
                    (first | rw [c14b0] | (simp only [i64_w, i32_w, IntKind.wrap_u8, IntKind.wrap_u16, IntKind.wrap_u32]; rw [c14b0]) | skip)
                    by_cases c15 : 0 ≤ 60
                    · rw [if_pos c15] at H
                      have c15b0 := eq_true c15
                      have c15b1 : decide (0 ≤ 60) = true := decide_eq_true c15
                      clear c15
                      by_cases c16 : 60 ≤ (t465.size : Int)
                      · rw [if_pos c16] at H
                        have c16b0 := eq_true c16
                        have c16b1 : decide (60 ≤ (t465.size : Int)) = true := decide_eq_true c16
                        clear c16
                        have H' := Aside0.mk H
                        clear H; have hcz17_0 : w12.cell? ⟨gb467, 0, none⟩ = some (.int .i64 0) := (blk_cell BK467.out 0).trans rfl
                        have hcz17_1 : w12.cell? ⟨gb467, 1, none⟩ = some (.string (⟨#[]⟩ : ByteArray)) := (blk_cell BK467.out 1).trans rfl; have hcz17_2 : w12.cell? ⟨gb467, 2, none⟩ = some (.int .i64 0) := (blk_cell BK467.out 2).trans rfl; have hfz17_0 := blk_frozen BK467.out 0; have hfz17_1 := blk_frozen BK467.out 1; have hfz17_2 := blk_frozen BK467.out 2
                        go_wp2
                        go_meet
                        case rel => exact ⟨_, (t465.extract 0 60), H', ⟨by have := HK1.out; have := HJ3.out; first | omega | exact Nat.le_refl _⟩, ⟨by (with_reducible repeat (first | apply Kd.R_alloc | apply Kd.R_drewN | apply Kd.R_drew)); exact Kd.R_mono (Kd.R_far (p := ⟨gb467, 1, none⟩) (Kd.R_far (p := ⟨gb467, 2, none⟩) (Kd.R_far (p := ⟨gb467, 1, none⟩) (Kd.R_far (p := ⟨gb467, 0, none⟩) (Kd.R_mono HO_7.out (fun k_ hk => (⟨hk, hk.2⟩ : _ ∧ k_ ≠ gb467))) (fun _ hk => hk.2) (.int .i64 t464)) (fun _ hk => hk.2) (.string t465)) (fun _ hk => hk.2) (.int .i64 t466)) (fun _ hk => hk.2) (.string (t465.extract 0 60))) (fun _ hk => hk.1.2)⟩, ⟨by (with_reducible repeat (first | refine blk_drewN ?_ _ | refine blk_drew ?_ | refine blk_alloc ?_ _)); refine blk_put (cs := #[.int .i64 t464, .string t465, .int .i64 t466]) ?_ 1 _ rfl; (with_reducible repeat (first | refine blk_drewN ?_ _ | refine blk_drew ?_ | refine blk_alloc ?_ _)); refine blk_put (cs := #[.int .i64 t464, .string t465, .int .i64 0]) ?_ 2 _ rfl; (with_reducible repeat (first | refine blk_drewN ?_ _ | refine blk_drew ?_ | refine blk_alloc ?_ _)); refine blk_put (cs := #[.int .i64 t464, .string (⟨#[]⟩ : ByteArray), .int .i64 0]) ?_ 1 _ rfl; (with_reducible repeat (first | refine blk_drewN ?_ _ | refine blk_drew ?_ | refine blk_alloc ?_ _)); refine blk_put (cs := #[.int .i64 0, .string (⟨#[]⟩ : ByteArray), .int .i64 0]) ?_ 0 _ rfl; (with_reducible repeat (first | refine blk_drewN ?_ _ | refine blk_drew ?_ | refine blk_alloc ?_ _)); exact BK467.out⟩, ⟨hbT HB.out⟩⟩
                      · rw [if_neg c16] at H
                        exact absurd H (by simp)
                    · rw [if_neg c15] at H
                      exact absurd H (by simp)
                  · rw [if_neg c14] at H
                    have c14b0 : decide (60 < (t465.size : Int)) = false := decide_eq_false c14
                    have c14b1 : decide (60 < t465.size) = false := decide_eq_false (by omega)
                    clear c14
                    (first | rw [c14b0] | (simp only [i64_w, i32_w, IntKind.wrap_u8, IntKind.wrap_u16, IntKind.wrap_u32]; rw [c14b0]) | skip)
                    have H' := Aside0.mk H
                    clear H
                    go_wp2
                    go_meet
                    case rel => exact ⟨_, (t465), H', ⟨by have := HK1.out; have := HJ3.out; first | omega | exact Nat.le_refl _⟩, ⟨by (with_reducible repeat (first | apply Kd.R_alloc | apply Kd.R_drewN | apply Kd.R_drew)); exact Kd.R_mono (Kd.R_far (p := ⟨gb467, 2, none⟩) (Kd.R_far (p := ⟨gb467, 1, none⟩) (Kd.R_far (p := ⟨gb467, 0, none⟩) (Kd.R_mono HO_7.out (fun k_ hk => (⟨hk, hk.2⟩ : _ ∧ k_ ≠ gb467))) (fun _ hk => hk.2) (.int .i64 t464)) (fun _ hk => hk.2) (.string t465)) (fun _ hk => hk.2) (.int .i64 t466)) (fun _ hk => hk.1.2)⟩, ⟨by (with_reducible repeat (first | refine blk_drewN ?_ _ | refine blk_drew ?_ | refine blk_alloc ?_ _)); refine blk_put (cs := #[.int .i64 t464, .string t465, .int .i64 0]) ?_ 2 _ rfl; (with_reducible repeat (first | refine blk_drewN ?_ _ | refine blk_drew ?_ | refine blk_alloc ?_ _)); refine blk_put (cs := #[.int .i64 t464, .string (⟨#[]⟩ : ByteArray), .int .i64 0]) ?_ 1 _ rfl; (with_reducible repeat (first | refine blk_drewN ?_ _ | refine blk_drew ?_ | refine blk_alloc ?_ _)); refine blk_put (cs := #[.int .i64 0, .string (⟨#[]⟩ : ByteArray), .int .i64 0]) ?_ 0 _ rfl; (with_reducible repeat (first | refine blk_drewN ?_ _ | refine blk_drew ?_ | refine blk_alloc ?_ _)); exact BK467.out⟩, ⟨hbT HB.out⟩⟩
                case rest =>
                  clear HC10
                  try clear c1
                  try clear c2
                  try clear p2
                  try clear p4
                  try clear q4
                  try clear hx4
                  try clear c5
                  try clear c5b0
                  try clear c6
                  try clear c7
                  try clear c7b0
                  try clear c8
                  try clear c8b0
                  try clear c10
                  try clear c14
                  try clear c14b0
                  try clear c14b1
                  try clear c15
                  try clear c15b0
                  try clear c15b1
                  try clear c16
                  try clear c16b0
                  try clear c16b1
                  try clear hcz13_0
                  try clear hcz13_1
                  try clear hcz13_2
                  try clear hcz17_0
                  try clear hcz17_1
                  try clear hcz17_2
                  try clear hfz13_0
                  try clear hfz13_1
                  try clear hfz13_2
                  try clear hfz17_0
                  try clear hfz17_1
                  try clear hfz17_2
                  try clear hx463_0
                  try clear hx463_1
                  try clear hx463_2
                  try clear p2
                  try clear p463
                  try clear q463
                  obtain ⟨kq, x468001_9, HA, HJ9, HO_7, BK467, HB⟩ := hcut
                  cases kq with
                  | zero => (have HA2 := HA.out; clear HA; revert HA2; rw [refrainlaw5_TokenFilled.j2_zero]; intro h_; cases h_)
                  | succ kj9 =>
                    have H := HA.out
                    clear HA
                    simp only [refrainlaw5_TokenFilled.j2] at H
                    obtain ⟨y468, hy468⟩ : ∃ y_ : List (S44), y_ = (([(⟨t464, x468001_9, t466⟩ : S44)] : List (S44))) := ⟨_, rfl⟩
                    replace H : ((token_Spell.f y468).bind fun bt471 => (if bt471.2 = 0 then (if x7_1.length < 4398046511104 then ((some (x7_1 ++ [(⟨t464, x468001_9, t466⟩ : S44)] : List (S44))).bind fun y473 => (if x9_1 < (l1.length : Int) then (if 0 ≤ x9_1 then ((refrainlaw5_filler.f kj9 (rd l1 x9_1) a2).bind fun t477 => (if x8_1.size + t477.size ≤ 9223372036854775807 then (if (x8_1 ++ t477).size + bt471.1.size ≤ 9223372036854775807 then (refrainlaw5_TokenFilled.l0 kj9 l0 l1 a2 y473 ((x8_1 ++ t477) ++ bt471.1) (wrap64 (x9_1 + 1))) else (none)) else (none))) else (none)) else ((refrainlaw5_filler.f kj9 4 a2).bind fun t478 => (if x8_1.size + t478.size ≤ 9223372036854775807 then (if (x8_1 ++ t478).size + bt471.1.size ≤ 9223372036854775807 then (refrainlaw5_TokenFilled.l0 kj9 l0 l1 a2 y473 ((x8_1 ++ t478) ++ bt471.1) (wrap64 (x9_1 + 1))) else (none)) else (none))))) else (none)) else (some false))) = some r := by first | (rw [hy468]; with_reducible exact H) | (have H2_ := (Option.bind_some _ _).symm.trans H; rw [hy468]; with_reducible exact H2_) | (have H2_ := (Option.bind_some _ _).symm.trans H; with_reducible exact H2_) | with_reducible exact H | (rw [hy468]; exact H) | exact H
                    have Ny468 := Aside0.mk hy468
                    clear hy468
                    replace H := Option.bind_eq_some_iff.mp H
                    obtain ⟨⟨t471, t472⟩, A180, H⟩ := H
                    replace H : (if t472 = 0 then (if x7_1.length < 4398046511104 then ((some (x7_1 ++ [(⟨t464, x468001_9, t466⟩ : S44)] : List (S44))).bind fun y473 => (if x9_1 < (l1.length : Int) then (if 0 ≤ x9_1 then ((refrainlaw5_filler.f kj9 (rd l1 x9_1) a2).bind fun t477 => (if x8_1.size + t477.size ≤ 9223372036854775807 then (if (x8_1 ++ t477).size + t471.size ≤ 9223372036854775807 then (refrainlaw5_TokenFilled.l0 kj9 l0 l1 a2 y473 ((x8_1 ++ t477) ++ t471) (wrap64 (x9_1 + 1))) else (none)) else (none))) else (none)) else ((refrainlaw5_filler.f kj9 4 a2).bind fun t478 => (if x8_1.size + t478.size ≤ 9223372036854775807 then (if (x8_1 ++ t478).size + t471.size ≤ 9223372036854775807 then (refrainlaw5_TokenFilled.l0 kj9 l0 l1 a2 y473 ((x8_1 ++ t478) ++ t471) (wrap64 (x9_1 + 1))) else (none)) else (none))))) else (none)) else (some false)) = some r := H
                    have A18 := Aside0.mk A180
                    clear A180
                    by_cases c19 : t472 = 0
                    · rw [if_pos c19] at H
                      have c19b0 : (t472 == 0) = true := beq_iff_eq.mpr c19
                      have c19b1 : (t472 != 0) = false := bne_eq_false_iff_eq.mpr c19
                      clear c19
                      by_cases c20 : x7_1.length < 4398046511104
                      · rw [if_pos c20] at H
                        have LMc20 := Aside0.mk c20
                        clear c20
                        obtain ⟨y473, hy473⟩ : ∃ y_ : List (S44), y_ = (x7_1 ++ [(⟨t464, x468001_9, t466⟩ : S44)]) := ⟨_, rfl⟩
                        replace H : (if x9_1 < (l1.length : Int) then (if 0 ≤ x9_1 then ((refrainlaw5_filler.f kj9 (rd l1 x9_1) a2).bind fun t477 => (if x8_1.size + t477.size ≤ 9223372036854775807 then (if (x8_1 ++ t477).size + t471.size ≤ 9223372036854775807 then (refrainlaw5_TokenFilled.l0 kj9 l0 l1 a2 y473 ((x8_1 ++ t477) ++ t471) (wrap64 (x9_1 + 1))) else (none)) else (none))) else (none)) else ((refrainlaw5_filler.f kj9 4 a2).bind fun t478 => (if x8_1.size + t478.size ≤ 9223372036854775807 then (if (x8_1 ++ t478).size + t471.size ≤ 9223372036854775807 then (refrainlaw5_TokenFilled.l0 kj9 l0 l1 a2 y473 ((x8_1 ++ t478) ++ t471) (wrap64 (x9_1 + 1))) else (none)) else (none)))) = some r := by first | (rw [hy473]; with_reducible exact H) | (have H2_ := (Option.bind_some _ _).symm.trans H; rw [hy473]; with_reducible exact H2_) | (have H2_ := (Option.bind_some _ _).symm.trans H; with_reducible exact H2_) | with_reducible exact H | (rw [hy473]; exact H) | exact H
                        have Ny473 := Aside0.mk hy473
                        clear hy473
                        by_cases c21 : x9_1 < (l1.length : Int)
                        · rw [if_pos c21] at H
                          have c21b0 : decide (x9_1 < (l1.length : Int)) = true := decide_eq_true c21
                          clear c21
                          by_cases c22 : 0 ≤ x9_1
                          · rw [if_pos c22] at H
                            have c22b0 : decide (0 ≤ x9_1) = true := decide_eq_true c22
                            clear c22
                            replace H := Option.bind_eq_some_iff.mp H
                            obtain ⟨t477, A230, H⟩ := H
                            replace H : (if x8_1.size + t477.size ≤ 9223372036854775807 then (if (x8_1 ++ t477).size + t471.size ≤ 9223372036854775807 then (refrainlaw5_TokenFilled.l0 kj9 l0 l1 a2 y473 ((x8_1 ++ t477) ++ t471) (wrap64 (x9_1 + 1))) else (none)) else (none)) = some r := H
                            have A23 := Aside0.mk A230
                            clear A230
                            by_cases c24 : x8_1.size + t477.size ≤ 9223372036854775807
                            · rw [if_pos c24] at H
                              have c24b0 := eq_true c24
                              have c24b1 : decide (x8_1.size + t477.size ≤ 9223372036854775807) = true := decide_eq_true c24
                              try have c24b2 : (9223372036854775807 < x8_1.size + t477.size) = False := eq_false (Nat.not_lt.2 c24)
                              by_cases c25 : (x8_1 ++ t477).size + t471.size ≤ 9223372036854775807
                              · rw [if_pos c25] at H
                                have c25b0 := eq_true c25
                                try (have c25s0 := c25; simp only [ByteArray.size_append, ByteArray.size_extract, Nat.sub_zero, size_lit1, size_lit2, size_lit3, size_lit4, size_lit5, size_lit6, size_lit7, size_lit8] at c25s0; have c25s2 := eq_false (Nat.not_lt.2 c25s0); replace c25s0 := eq_true c25s0)
                                have c25b1 : decide ((x8_1 ++ t477).size + t471.size ≤ 9223372036854775807) = true := decide_eq_true c25
                                try have c25b2 : (9223372036854775807 < (x8_1 ++ t477).size + t471.size) = False := eq_false (Nat.not_lt.2 c25)
                                have H' := Aside0.mk H
                                clear H; have hcz26_0 : wc.cell? ⟨gb467, 0, none⟩ = some (.int .i64 t464) := (blk_cell BK467.out 0).trans rfl
                                have hcz26_1 : wc.cell? ⟨gb467, 1, none⟩ = some (.string x468001_9) := (blk_cell BK467.out 1).trans rfl; have hcz26_2 : wc.cell? ⟨gb467, 2, none⟩ = some (.int .i64 t466) := (blk_cell BK467.out 2).trans rfl; have hfz26_0 := blk_frozen BK467.out 0; have hfz26_1 := blk_frozen BK467.out 1; have hfz26_2 := blk_frozen BK467.out 2
                                go_wp2_with (first | ((with_reducible refine gate_dst (N := 42) rfl ?_); refine Kd.R_lit k44 _ 44 ?hg (N := 42) ?hd (xs := ([(⟨t464, x468001_9, t466⟩ : S44)] : List (S44))) (inner := [.int .i64 t464, .string x468001_9, .int .i64 t466]) (ok := fun _ => True) (okp := fun _ => True) ?hr ?hp (fun _ hk => hk) trivial (Below.refl _ _) (Nat.le_refl _) (by simp) ?_; (case hd => rfl); (case hg => rfl); (case hr => first | (go_simp; done) | (go_simp; rfl)); (case hp => exact (Reps.c3 (show Kd.M k44 _ _ _ (⟨t464, x468001_9, t466⟩ : S44) [.int .i64 t464, .string x468001_9, .int .i64 t466] from (k44_mkM _ _ _ (⟨t464, x468001_9, t466⟩ : S44) )) (Reps.none _ _))); intro v469 w27 ho28 hb hg_ hnew_; clear hg_ hnew_; (first | rw [← Ny468.out] at ho28 | (simp only [Int.reduceToNat] at ho28; rw [← Ny468.out] at ho28)); have HO470 := Aside0.mk (Kd.R_lower (Kd.R_newB (Kd.R_new' ho28 (Kd.R_lt (by (with_reducible repeat (first | apply Kd.R_alloc | apply Kd.R_drewN | apply Kd.R_drew)); exact HO_7.out))) (g := gb467) (o := .cells #[.int .i64 t464, .string x468001_9, .int .i64 t466] 44 (0, 0)) (bkT BK467.out)) (below_size (hbT HB.out))); replace HO_7 := Aside0.mk (Kd.R_elder' (by (with_reducible repeat (first | apply Kd.R_alloc | apply Kd.R_drewN | apply Kd.R_drew)); exact HO_7.out) (Kd.R_base ho28) hb); replace BK467 := bbA BK467 hb; replace HB := bsA HB hb; clear hb ho28; obtain ⟨Ao29, co29, eo29⟩ := Kd.R_slice HO470.out; subst eo29) | ((with_reducible refine gate_callee (f := 23) rfl ?_); refine goesT (some 43) Tryd.func23 #[.slice Ao29 y468.length co29] ?_; (with_reducible refine (token_Spell.calls _ _ y468 t471 t472 _ ?side1 ?side2 ?side3 A18.out).mono ?_); (case side1 => repeat (first | exact (Kd.R_reads' HO470.out).2.2 | (with_reducible refine Kd.C_alloc ?_ _) | (with_reducible refine Kd.C_drewN ?_ _) | (with_reducible refine Kd.C_drew ?_))); (case side2 => exact (Kd.R_reads' HO470.out).2.1); (case side3 => first | (with_reducible exact HL_LErr) | exact ⟨LErr.below HL_LErr.out (hbT HB.out)⟩); rintro e w30 ⟨rfl, hb⟩; refine ⟨_, rfl, ?_⟩; replace HO_7 := Aside0.mk (Kd.R_below (by (with_reducible repeat (first | apply Kd.R_alloc | apply Kd.R_drewN | apply Kd.R_drew)); exact HO_7.out) hb); replace HO470 := Aside0.mk (Kd.R_below (by (with_reducible repeat (first | apply Kd.R_alloc | apply Kd.R_drewN | apply Kd.R_drew)); exact HO470.out) hb); replace BK467 := bbA BK467 hb; replace HB := bsA HB hb; (try clear hb); (try clear hb2); (try clear hk); (try clear hi); have hcz31_0 : w30.cell? ⟨gb467, 0, none⟩ = some (.int .i64 t464) := (blk_cell BK467.out 0).trans rfl; have hcz31_1 : w30.cell? ⟨gb467, 1, none⟩ = some (.string x468001_9) := (blk_cell BK467.out 1).trans rfl; have hcz31_2 : w30.cell? ⟨gb467, 2, none⟩ = some (.int .i64 t466) := (blk_cell BK467.out 2).trans rfl; have hfz31_0 := blk_frozen BK467.out 0; have hfz31_1 := blk_frozen BK467.out 1; have hfz31_2 := blk_frozen BK467.out 2) | ((with_reducible refine gate_builtin (b := .append) (xs := #[.tmp 48, .tmp 50]) rfl ?_); at_builtin; refine Kd.R_append k44 (w0 := w) w.heap.size rfl (.tmp 48) (.tmp 50) 40 44 (.agg #[(.int .i64 0), (.string ⟨#[]⟩), (.int .i64 0)]) 32 rfl Tryd.underlying40 info44 rfl (by decide) (by omega) u7 x7_1 (⟨t464, x468001_9, t466⟩ : S44) [.int .i64 t464, .string x468001_9, .int .i64 t466] (fun k_ => some k_ ≠ (.slice Ao29 y468.length co29 : Value).ownBlock ∧ k_ ≠ gb467) (fun _ => False) rfl rfl ?aP (fun _ hk => hk.elim) ?aF ?aO ?aB ?aS ?aL ?_; (case aP => exact k44_mkM _ _ _ (⟨t464, x468001_9, t466⟩ : S44)); (case aB => exact (hbT HB.out)); (case aF => exact (fun k_ hk => ⟨Kd.fresh' (Kd.R_lt (by (with_reducible repeat (first | apply Kd.R_alloc | apply Kd.R_drewN | apply Kd.R_drew)); exact HO470.out)) k_ hk, Kd.freshB (g := gb467) (o := .cells #[.int .i64 t464, .string x468001_9, .int .i64 t466] 44 (0, 0)) (bkT BK467.out) k_ hk⟩)); (case aO => exact (by (with_reducible repeat (first | apply Kd.R_alloc | apply Kd.R_drewN | apply Kd.R_drew)); exact Kd.R_mono HO_7.out (fun _ hk => ⟨hk.2, hk.1⟩))); (case aS => exact (below_size (hbT HB.out))); (case aL => have := LMc20.out; omega); intro v474 w32 ho hb hg hat; rw [← Ny473.out] at ho; have n0_ := Aside0.mk (blk_grown (g := gb467) (o := .cells #[.int .i64 t464, .string x468001_9, .int .i64 t466] 44 (0, 0)) (bkT BK467.out) hg (Kd.R_away HO_7.out (fun _ hk => hk.1))); have n1_ := Aside0.mk (Kd.R_after (ok := (fun k_ => k_ ≠ gb467)) (by (with_reducible repeat (first | apply Kd.R_alloc | apply Kd.R_drewN | apply Kd.R_drew)); exact Kd.R_mono HO470.out (fun _ hk => ⟨hk.2, hk.1.2⟩)) hg hat); have n2_ := Aside0.mk (hb); have n3_ := Aside0.mk (ho); clear BK467; clear HO470; clear HB; clear HO_7; have BK467 := n0_; have HO470 := n1_; have HB := n2_; have HO475 := n3_; clear n0_ n1_ n2_ n3_; clear ho hb hg hat; have p476 : 0 ≤ (x9_1 : Int) := of_decide_eq_true (by first | (with_reducible assumption) | assumption); have q476 : x9_1 < (l1.length : Int) := of_decide_eq_true (by first | (with_reducible assumption) | assumption); obtain ⟨ad476, e476, hx476_0⟩ := Kd.at_int HR1.out x9_1 p476 q476; cases e476; replace hx476_0 := (HB.out.cell (World.block_lt_of_cell? w _ hx476_0)).trans hx476_0; replace p476 := eq_true p476; replace q476 := eq_true q476) | ((with_reducible refine gate_callee (f := 25) rfl ?_); refine goesT (some 63) Tryd.func25 #[.int .u8 (rd l1 x9_1), .string a2] ?_; (with_reducible refine (refrainlaw5_filler.calls kj9 (rd l1 x9_1) a2 t477 _ A23.out).mono ?_); rintro e w33 ⟨rfl, hb⟩; refine ⟨_, rfl, ?_⟩; replace HO470 := Aside0.mk (Kd.R_below (by (with_reducible repeat (first | apply Kd.R_alloc | apply Kd.R_drewN | apply Kd.R_drew)); exact HO470.out) hb); replace HO475 := Aside0.mk (Kd.R_below (by (with_reducible repeat (first | apply Kd.R_alloc | apply Kd.R_drewN | apply Kd.R_drew)); exact HO475.out) hb); replace BK467 := bbA BK467 hb; replace HB := bsA HB hb; (try clear hb); (try clear hb2); (try clear hk); (try clear hi)))
                                go_roundg kj9
                                case measure => have := HK1.out; have := HJ3.out; have := HJ9.out; omega
                                case rel => exact ⟨(y473), ((x8_1 ++ t477) ++ t471), (wrap64 (x9_1 + 1)), (by first | rfl | (simp; done) | (simp [*]; done) | (simp; unfold wrap64; omega) | (congr 1; (try rw [Bool.eq_iff_iff]); simp [List.isEmpty_iff]; done)), (by first | rfl | (simp; done) | (simp [*]; done) | (simp; unfold wrap64; omega) | (congr 1; (try rw [Bool.eq_iff_iff]); simp [List.isEmpty_iff]; done)), H', ⟨by have := HK1.out; have := HJ3.out; have := HJ9.out; omega⟩, ⟨by (with_reducible repeat (first | apply Kd.R_alloc | apply Kd.R_drewN | apply Kd.R_drew)); exact Kd.R_mono HO475.out (fun _ hk => trivial)⟩, ⟨hbT HB.out⟩⟩
                              · rw [if_neg c25] at H
                                exact absurd H (by simp)
                            · rw [if_neg c24] at H
                              exact absurd H (by simp)
                          · rw [if_neg c22] at H
                            exact absurd H (by simp)
                        · rw [if_neg c21] at H
                          have c21b0 : decide (x9_1 < (l1.length : Int)) = false := decide_eq_false c21
                          clear c21
                          replace H := Option.bind_eq_some_iff.mp H
                          obtain ⟨t478, A340, H⟩ := H
                          replace H : (if x8_1.size + t478.size ≤ 9223372036854775807 then (if (x8_1 ++ t478).size + t471.size ≤ 9223372036854775807 then (refrainlaw5_TokenFilled.l0 kj9 l0 l1 a2 y473 ((x8_1 ++ t478) ++ t471) (wrap64 (x9_1 + 1))) else (none)) else (none)) = some r := H
                          have A34 := Aside0.mk A340
                          clear A340
                          by_cases c35 : x8_1.size + t478.size ≤ 9223372036854775807
                          · rw [if_pos c35] at H
                            have c35b0 := eq_true c35
                            have c35b1 : decide (x8_1.size + t478.size ≤ 9223372036854775807) = true := decide_eq_true c35
                            try have c35b2 : (9223372036854775807 < x8_1.size + t478.size) = False := eq_false (Nat.not_lt.2 c35)
                            by_cases c36 : (x8_1 ++ t478).size + t471.size ≤ 9223372036854775807
                            · rw [if_pos c36] at H
                              have c36b0 := eq_true c36
                              try (have c36s0 := c36; simp only [ByteArray.size_append, ByteArray.size_extract, Nat.sub_zero, size_lit1, size_lit2, size_lit3, size_lit4, size_lit5, size_lit6, size_lit7, size_lit8] at c36s0; have c36s2 := eq_false (Nat.not_lt.2 c36s0); replace c36s0 := eq_true c36s0)
                              have c36b1 : decide ((x8_1 ++ t478).size + t471.size ≤ 9223372036854775807) = true := decide_eq_true c36
                              try have c36b2 : (9223372036854775807 < (x8_1 ++ t478).size + t471.size) = False := eq_false (Nat.not_lt.2 c36)
                              have H' := Aside0.mk H
                              clear H; have hcz37_0 : wc.cell? ⟨gb467, 0, none⟩ = some (.int .i64 t464) := (blk_cell BK467.out 0).trans rfl
                              have hcz37_1 : wc.cell? ⟨gb467, 1, none⟩ = some (.string x468001_9) := (blk_cell BK467.out 1).trans rfl; have hcz37_2 : wc.cell? ⟨gb467, 2, none⟩ = some (.int .i64 t466) := (blk_cell BK467.out 2).trans rfl; have hfz37_0 := blk_frozen BK467.out 0; have hfz37_1 := blk_frozen BK467.out 1; have hfz37_2 := blk_frozen BK467.out 2
                              go_wp2_with (first | ((with_reducible refine gate_dst (N := 42) rfl ?_); refine Kd.R_lit k44 _ 44 ?hg (N := 42) ?hd (xs := ([(⟨t464, x468001_9, t466⟩ : S44)] : List (S44))) (inner := [.int .i64 t464, .string x468001_9, .int .i64 t466]) (ok := fun _ => True) (okp := fun _ => True) ?hr ?hp (fun _ hk => hk) trivial (Below.refl _ _) (Nat.le_refl _) (by simp) ?_; (case hd => rfl); (case hg => rfl); (case hr => first | (go_simp; done) | (go_simp; rfl)); (case hp => exact (Reps.c3 (show Kd.M k44 _ _ _ (⟨t464, x468001_9, t466⟩ : S44) [.int .i64 t464, .string x468001_9, .int .i64 t466] from (k44_mkM _ _ _ (⟨t464, x468001_9, t466⟩ : S44) )) (Reps.none _ _))); intro v469 w38 ho39 hb hg_ hnew_; clear hg_ hnew_; (first | rw [← Ny468.out] at ho39 | (simp only [Int.reduceToNat] at ho39; rw [← Ny468.out] at ho39)); have HO470 := Aside0.mk (Kd.R_lower (Kd.R_newB (Kd.R_new' ho39 (Kd.R_lt (by (with_reducible repeat (first | apply Kd.R_alloc | apply Kd.R_drewN | apply Kd.R_drew)); exact HO_7.out))) (g := gb467) (o := .cells #[.int .i64 t464, .string x468001_9, .int .i64 t466] 44 (0, 0)) (bkT BK467.out)) (below_size (hbT HB.out))); replace HO_7 := Aside0.mk (Kd.R_elder' (by (with_reducible repeat (first | apply Kd.R_alloc | apply Kd.R_drewN | apply Kd.R_drew)); exact HO_7.out) (Kd.R_base ho39) hb); replace BK467 := bbA BK467 hb; replace HB := bsA HB hb; clear hb ho39; obtain ⟨Ao40, co40, eo40⟩ := Kd.R_slice HO470.out; subst eo40) | ((with_reducible refine gate_callee (f := 23) rfl ?_); refine goesT (some 43) Tryd.func23 #[.slice Ao40 y468.length co40] ?_; (with_reducible refine (token_Spell.calls _ _ y468 t471 t472 _ ?side1 ?side2 ?side3 A18.out).mono ?_); (case side1 => repeat (first | exact (Kd.R_reads' HO470.out).2.2 | (with_reducible refine Kd.C_alloc ?_ _) | (with_reducible refine Kd.C_drewN ?_ _) | (with_reducible refine Kd.C_drew ?_))); (case side2 => exact (Kd.R_reads' HO470.out).2.1); (case side3 => first | (with_reducible exact HL_LErr) | exact ⟨LErr.below HL_LErr.out (hbT HB.out)⟩); rintro e w41 ⟨rfl, hb⟩; refine ⟨_, rfl, ?_⟩; replace HO_7 := Aside0.mk (Kd.R_below (by (with_reducible repeat (first | apply Kd.R_alloc | apply Kd.R_drewN | apply Kd.R_drew)); exact HO_7.out) hb); replace HO470 := Aside0.mk (Kd.R_below (by (with_reducible repeat (first | apply Kd.R_alloc | apply Kd.R_drewN | apply Kd.R_drew)); exact HO470.out) hb); replace BK467 := bbA BK467 hb; replace HB := bsA HB hb; (try clear hb); (try clear hb2); (try clear hk); (try clear hi); have hcz42_0 : w41.cell? ⟨gb467, 0, none⟩ = some (.int .i64 t464) := (blk_cell BK467.out 0).trans rfl; have hcz42_1 : w41.cell? ⟨gb467, 1, none⟩ = some (.string x468001_9) := (blk_cell BK467.out 1).trans rfl; have hcz42_2 : w41.cell? ⟨gb467, 2, none⟩ = some (.int .i64 t466) := (blk_cell BK467.out 2).trans rfl; have hfz42_0 := blk_frozen BK467.out 0; have hfz42_1 := blk_frozen BK467.out 1; have hfz42_2 := blk_frozen BK467.out 2) | ((with_reducible refine gate_builtin (b := .append) (xs := #[.tmp 48, .tmp 50]) rfl ?_); at_builtin; refine Kd.R_append k44 (w0 := w) w.heap.size rfl (.tmp 48) (.tmp 50) 40 44 (.agg #[(.int .i64 0), (.string ⟨#[]⟩), (.int .i64 0)]) 32 rfl Tryd.underlying40 info44 rfl (by decide) (by omega) u7 x7_1 (⟨t464, x468001_9, t466⟩ : S44) [.int .i64 t464, .string x468001_9, .int .i64 t466] (fun k_ => some k_ ≠ (.slice Ao40 y468.length co40 : Value).ownBlock ∧ k_ ≠ gb467) (fun _ => False) rfl rfl ?aP (fun _ hk => hk.elim) ?aF ?aO ?aB ?aS ?aL ?_; (case aP => exact k44_mkM _ _ _ (⟨t464, x468001_9, t466⟩ : S44)); (case aB => exact (hbT HB.out)); (case aF => exact (fun k_ hk => ⟨Kd.fresh' (Kd.R_lt (by (with_reducible repeat (first | apply Kd.R_alloc | apply Kd.R_drewN | apply Kd.R_drew)); exact HO470.out)) k_ hk, Kd.freshB (g := gb467) (o := .cells #[.int .i64 t464, .string x468001_9, .int .i64 t466] 44 (0, 0)) (bkT BK467.out) k_ hk⟩)); (case aO => exact (by (with_reducible repeat (first | apply Kd.R_alloc | apply Kd.R_drewN | apply Kd.R_drew)); exact Kd.R_mono HO_7.out (fun _ hk => ⟨hk.2, hk.1⟩))); (case aS => exact (below_size (hbT HB.out))); (case aL => have := LMc20.out; omega); intro v474 w43 ho hb hg hat; rw [← Ny473.out] at ho; have n0_ := Aside0.mk (blk_grown (g := gb467) (o := .cells #[.int .i64 t464, .string x468001_9, .int .i64 t466] 44 (0, 0)) (bkT BK467.out) hg (Kd.R_away HO_7.out (fun _ hk => hk.1))); have n1_ := Aside0.mk (Kd.R_after (ok := (fun k_ => k_ ≠ gb467)) (by (with_reducible repeat (first | apply Kd.R_alloc | apply Kd.R_drewN | apply Kd.R_drew)); exact Kd.R_mono HO470.out (fun _ hk => ⟨hk.2, hk.1.2⟩)) hg hat); have n2_ := Aside0.mk (hb); have n3_ := Aside0.mk (ho); clear BK467; clear HO470; clear HB; clear HO_7; have BK467 := n0_; have HO470 := n1_; have HB := n2_; have HO475 := n3_; clear n0_ n1_ n2_ n3_; clear ho hb hg hat) | ((with_reducible refine gate_callee (f := 25) rfl ?_); refine goesT (some 63) Tryd.func25 #[.int .u8 4, .string a2] ?_; (with_reducible refine (refrainlaw5_filler.calls kj9 4 a2 t478 _ A34.out).mono ?_); rintro e w44 ⟨rfl, hb⟩; refine ⟨_, rfl, ?_⟩; replace HO470 := Aside0.mk (Kd.R_below (by (with_reducible repeat (first | apply Kd.R_alloc | apply Kd.R_drewN | apply Kd.R_drew)); exact HO470.out) hb); replace HO475 := Aside0.mk (Kd.R_below (by (with_reducible repeat (first | apply Kd.R_alloc | apply Kd.R_drewN | apply Kd.R_drew)); exact HO475.out) hb); replace BK467 := bbA BK467 hb; replace HB := bsA HB hb; (try clear hb); (try clear hb2); (try clear hk); (try clear hi)))
                              go_roundg kj9
                              case measure => have := HK1.out; have := HJ3.out; have := HJ9.out; omega
                              case rel => exact ⟨(y473), ((x8_1 ++ t478) ++ t471), (wrap64 (x9_1 + 1)), (by first | rfl | (simp; done) | (simp [*]; done) | (simp; unfold wrap64; omega) | (congr 1; (try rw [Bool.eq_iff_iff]); simp [List.isEmpty_iff]; done)), (by first | rfl | (simp; done) | (simp [*]; done) | (simp; unfold wrap64; omega) | (congr 1; (try rw [Bool.eq_iff_iff]); simp [List.isEmpty_iff]; done)), H', ⟨by have := HK1.out; have := HJ3.out; have := HJ9.out; omega⟩, ⟨by (with_reducible repeat (first | apply Kd.R_alloc | apply Kd.R_drewN | apply Kd.R_drew)); exact Kd.R_mono HO475.out (fun _ hk => trivial)⟩, ⟨hbT HB.out⟩⟩
                            · rw [if_neg c36] at H
                              exact absurd H (by simp)
                          · rw [if_neg c35] at H
                            exact absurd H (by simp)
                      · rw [if_neg c20] at H
                        exact absurd H (by simp)
                    · rw [if_neg c19] at H
                      have c19b0 : (t472 == 0) = false := beq_eq_false_iff_ne.mpr c19
                      have c19b1 : (t472 != 0) = true := bne_iff_ne.mpr c19
                      obtain rfl := Option.some.inj H
                      have hcz45_0 : wc.cell? ⟨gb467, 0, none⟩ = some (.int .i64 t464) := (blk_cell BK467.out 0).trans rfl; have hcz45_1 : wc.cell? ⟨gb467, 1, none⟩ = some (.string x468001_9) := (blk_cell BK467.out 1).trans rfl; have hcz45_2 : wc.cell? ⟨gb467, 2, none⟩ = some (.int .i64 t466) := (blk_cell BK467.out 2).trans rfl; have hfz45_0 := blk_frozen BK467.out 0; have hfz45_1 := blk_frozen BK467.out 1; have hfz45_2 := blk_frozen BK467.out 2
                      go_wp2_with (first | ((with_reducible refine gate_dst (N := 42) rfl ?_); refine Kd.R_lit k44 _ 44 ?hg (N := 42) ?hd (xs := ([(⟨t464, x468001_9, t466⟩ : S44)] : List (S44))) (inner := [.int .i64 t464, .string x468001_9, .int .i64 t466]) (ok := fun _ => True) (okp := fun _ => True) ?hr ?hp (fun _ hk => hk) trivial (Below.refl _ _) (Nat.le_refl _) (by simp) ?_; (case hd => rfl); (case hg => rfl); (case hr => first | (go_simp; done) | (go_simp; rfl)); (case hp => exact (Reps.c3 (show Kd.M k44 _ _ _ (⟨t464, x468001_9, t466⟩ : S44) [.int .i64 t464, .string x468001_9, .int .i64 t466] from (k44_mkM _ _ _ (⟨t464, x468001_9, t466⟩ : S44) )) (Reps.none _ _))); intro v469 w46 ho47 hb hg_ hnew_; clear hg_ hnew_; (first | rw [← Ny468.out] at ho47 | (simp only [Int.reduceToNat] at ho47; rw [← Ny468.out] at ho47)); have HO470 := Aside0.mk (Kd.R_lower (Kd.R_newB (Kd.R_new' ho47 (Kd.R_lt (by (with_reducible repeat (first | apply Kd.R_alloc | apply Kd.R_drewN | apply Kd.R_drew)); exact HO_7.out))) (g := gb467) (o := .cells #[.int .i64 t464, .string x468001_9, .int .i64 t466] 44 (0, 0)) (bkT BK467.out)) (below_size (hbT HB.out))); replace HO_7 := Aside0.mk (Kd.R_elder' (by (with_reducible repeat (first | apply Kd.R_alloc | apply Kd.R_drewN | apply Kd.R_drew)); exact HO_7.out) (Kd.R_base ho47) hb); replace BK467 := bbA BK467 hb; replace HB := bsA HB hb; clear hb ho47; obtain ⟨Ao48, co48, eo48⟩ := Kd.R_slice HO470.out; subst eo48) | ((with_reducible refine gate_callee (f := 23) rfl ?_); refine goesT (some 43) Tryd.func23 #[.slice Ao48 y468.length co48] ?_; (with_reducible refine (token_Spell.calls _ _ y468 t471 t472 _ ?side1 ?side2 ?side3 A18.out).mono ?_); (case side1 => repeat (first | exact (Kd.R_reads' HO470.out).2.2 | (with_reducible refine Kd.C_alloc ?_ _) | (with_reducible refine Kd.C_drewN ?_ _) | (with_reducible refine Kd.C_drew ?_))); (case side2 => exact (Kd.R_reads' HO470.out).2.1); (case side3 => first | (with_reducible exact HL_LErr) | exact ⟨LErr.below HL_LErr.out (hbT HB.out)⟩); rintro e w49 ⟨rfl, hb⟩; refine ⟨_, rfl, ?_⟩; replace HO_7 := Aside0.mk (Kd.R_below (by (with_reducible repeat (first | apply Kd.R_alloc | apply Kd.R_drewN | apply Kd.R_drew)); exact HO_7.out) hb); replace HO470 := Aside0.mk (Kd.R_below (by (with_reducible repeat (first | apply Kd.R_alloc | apply Kd.R_drewN | apply Kd.R_drew)); exact HO470.out) hb); replace BK467 := bbA BK467 hb; replace HB := bsA HB hb; (try clear hb); (try clear hb2); (try clear hk); (try clear hi)))
                      go_ret
                      exact ⟨by first | rfl | (simp [errW_none, errW_some] <;> rfl) | (simp [*, errW_none, errW_some] <;> rfl), hbT HB.out⟩
              · rw [if_neg c8] at H
                exact absurd H (by simp)
            · rw [if_neg c7] at H
              exact absurd H (by simp)
          · replace c6 := Bool.eq_false_iff.mpr c6
            subst c6
            have H1 : ((refrainlaw5_filler.f kj3 3 a2).bind fun t456 => (if x8_1.size + t456.size ≤ 9223372036854775807 then ((token_Scan.f kj3 (x8_1 ++ t456)).bind fun bt457 => (if bt457.2.2 = 0 then (if bt457.2.1 = 0 then ((refrainlaw5_alike.f kj3 x7_1 bt457.1).bind fun t462 => (some t462)) else (some false)) else (some false))) else (none))) = some r := by rw [if_neg (show ¬ (false = true) by decide)] at H; exact H
            clear H
            have H := H1
            clear H1
            replace H := Option.bind_eq_some_iff.mp H
            obtain ⟨t456, A500, H⟩ := H
            replace H : (if x8_1.size + t456.size ≤ 9223372036854775807 then ((token_Scan.f kj3 (x8_1 ++ t456)).bind fun bt457 => (if bt457.2.2 = 0 then (if bt457.2.1 = 0 then ((refrainlaw5_alike.f kj3 x7_1 bt457.1).bind fun t462 => (some t462)) else (some false)) else (some false))) else (none)) = some r := H
            have A50 := Aside0.mk A500
            clear A500
            by_cases c51 : x8_1.size + t456.size ≤ 9223372036854775807
            · rw [if_pos c51] at H
              have c51b0 := eq_true c51
              have c51b1 : decide (x8_1.size + t456.size ≤ 9223372036854775807) = true := decide_eq_true c51
              try have c51b2 : (9223372036854775807 < x8_1.size + t456.size) = False := eq_false (Nat.not_lt.2 c51)
              replace H := Option.bind_eq_some_iff.mp H
              obtain ⟨⟨t457, t458, t459⟩, A520, H⟩ := H
              replace H : (if t459 = 0 then (if t458 = 0 then ((refrainlaw5_alike.f kj3 x7_1 t457).bind fun t462 => (some t462)) else (some false)) else (some false)) = some r := H
              have A52 := Aside0.mk A520
              clear A520
              by_cases c53 : t459 = 0
              · rw [if_pos c53] at H
                have c53b0 : (t459 == 0) = true := beq_iff_eq.mpr c53
                have c53b1 : (t459 != 0) = false := bne_eq_false_iff_eq.mpr c53
                clear c53
                by_cases c54 : t458 = 0
                · rw [if_pos c54] at H
                  have c54b0 : (t458 == 0) = true := beq_iff_eq.mpr c54
                  have c54b1 : (t458 != 0) = false := bne_eq_false_iff_eq.mpr c54
                  clear c54
                  replace H := Option.bind_eq_some_iff.mp H
                  obtain ⟨t462, A550, H⟩ := H
                  replace H : (some t462) = some r := H
                  have A55 := Aside0.mk A550
                  clear A550
                  obtain rfl := Option.some.inj H
                  go_wp2_with (first | ((with_reducible refine gate_callee (f := 25) rfl ?_); refine goesT (some 70) Tryd.func25 #[.int .u8 3, .string a2] ?_; (with_reducible refine (refrainlaw5_filler.calls kj3 3 a2 t456 _ A50.out).mono ?_); rintro e w56 ⟨rfl, hb⟩; refine ⟨_, rfl, ?_⟩; replace HO_7 := Aside0.mk (Kd.R_below (by (with_reducible repeat (first | apply Kd.R_alloc | apply Kd.R_drewN | apply Kd.R_drew)); exact HO_7.out) hb); replace HB := bsA HB hb; (try clear hb); (try clear hb2); (try clear hk); (try clear hi)) | ((with_reducible refine gate_callee (f := 21) rfl ?_); refine goesT (some 72) Tryd.func21 #[.string (x8_1 ++ t456)] ?_; (with_reducible refine (token_Scan.calls kj3 (x8_1 ++ t456) t457 t458 t459 _ ?side1 A52.out).mono ?_); (case side1 => first | (with_reducible exact HL_LErr) | exact ⟨LErr.below HL_LErr.out (hbT HB.out)⟩); rintro e w57 ⟨v460, rfl, ho0, hb⟩; refine ⟨_, rfl, ?_⟩; have HO461 := Aside0.mk (Kd.R_lower (Kd.R_new' ho0 (Kd.R_lt (by (with_reducible repeat (first | apply Kd.R_alloc | apply Kd.R_drewN | apply Kd.R_drew)); exact HO_7.out))) (below_size (hbT HB.out))); replace HO_7 := Aside0.mk (Kd.R_elder' (by (with_reducible repeat (first | apply Kd.R_alloc | apply Kd.R_drewN | apply Kd.R_drew)); exact HO_7.out) (Kd.R_base ho0) hb); replace HB := bsA HB hb; (try clear hb); (try clear hb2); (try clear hk); (try clear hi); (try clear ho0); obtain ⟨Ao58, co58, eo58⟩ := Kd.R_slice HO_7.out; subst eo58; obtain ⟨Ao59, co59, eo59⟩ := Kd.R_slice HO461.out; subst eo59) | (go_at_call 24; (with_reducible refine (refrainlaw5_alike.calls kj3 _ _ x7_1 _ _ t457 t462 _ ?side1 ?side2 ?side3 ?side4 A55.out).mono ?_); (case side1 => repeat (first | exact (Kd.R_reads' HO_7.out).2.2 | (with_reducible refine Kd.C_alloc ?_ _) | (with_reducible refine Kd.C_drewN ?_ _) | (with_reducible refine Kd.C_drew ?_))); (case side2 => exact (Kd.R_reads' HO_7.out).2.1); (case side3 => repeat (first | exact (Kd.R_reads' HO461.out).2.2 | (with_reducible refine Kd.C_alloc ?_ _) | (with_reducible refine Kd.C_drewN ?_ _) | (with_reducible refine Kd.C_drew ?_))); (case side4 => exact (Kd.R_reads' HO461.out).2.1); rintro e w' ⟨rfl, ⟨nd, rfl⟩⟩))
                  go_ret
                  exact ⟨by first | rfl | (simp [errW_none, errW_some] <;> rfl) | (simp [*, errW_none, errW_some] <;> rfl), hbT HB.out⟩
                · rw [if_neg c54] at H
                  have c54b0 : (t458 == 0) = false := beq_eq_false_iff_ne.mpr c54
                  have c54b1 : (t458 != 0) = true := bne_iff_ne.mpr c54
                  obtain rfl := Option.some.inj H
                  go_wp2_with (first | ((with_reducible refine gate_callee (f := 25) rfl ?_); refine goesT (some 70) Tryd.func25 #[.int .u8 3, .string a2] ?_; (with_reducible refine (refrainlaw5_filler.calls kj3 3 a2 t456 _ A50.out).mono ?_); rintro e w60 ⟨rfl, hb⟩; refine ⟨_, rfl, ?_⟩; replace HO_7 := Aside0.mk (Kd.R_below (by (with_reducible repeat (first | apply Kd.R_alloc | apply Kd.R_drewN | apply Kd.R_drew)); exact HO_7.out) hb); replace HB := bsA HB hb; (try clear hb); (try clear hb2); (try clear hk); (try clear hi)) | ((with_reducible refine gate_callee (f := 21) rfl ?_); refine goesT (some 72) Tryd.func21 #[.string (x8_1 ++ t456)] ?_; (with_reducible refine (token_Scan.calls kj3 (x8_1 ++ t456) t457 t458 t459 _ ?side1 A52.out).mono ?_); (case side1 => first | (with_reducible exact HL_LErr) | exact ⟨LErr.below HL_LErr.out (hbT HB.out)⟩); rintro e w61 ⟨v460, rfl, ho0, hb⟩; refine ⟨_, rfl, ?_⟩; have HO461 := Aside0.mk (Kd.R_lower (Kd.R_new' ho0 (Kd.R_lt (by (with_reducible repeat (first | apply Kd.R_alloc | apply Kd.R_drewN | apply Kd.R_drew)); exact HO_7.out))) (below_size (hbT HB.out))); replace HO_7 := Aside0.mk (Kd.R_elder' (by (with_reducible repeat (first | apply Kd.R_alloc | apply Kd.R_drewN | apply Kd.R_drew)); exact HO_7.out) (Kd.R_base ho0) hb); replace HB := bsA HB hb; (try clear hb); (try clear hb2); (try clear hk); (try clear hi); (try clear ho0)))
                  go_ret
                  exact ⟨by first | rfl | (simp [errW_none, errW_some] <;> rfl) | (simp [*, errW_none, errW_some] <;> rfl), hbT HB.out⟩
              · rw [if_neg c53] at H
                have c53b0 : (t459 == 0) = false := beq_eq_false_iff_ne.mpr c53
                have c53b1 : (t459 != 0) = true := bne_iff_ne.mpr c53
                obtain rfl := Option.some.inj H
                go_wp2_with (first | ((with_reducible refine gate_callee (f := 25) rfl ?_); refine goesT (some 70) Tryd.func25 #[.int .u8 3, .string a2] ?_; (with_reducible refine (refrainlaw5_filler.calls kj3 3 a2 t456 _ A50.out).mono ?_); rintro e w62 ⟨rfl, hb⟩; refine ⟨_, rfl, ?_⟩; replace HO_7 := Aside0.mk (Kd.R_below (by (with_reducible repeat (first | apply Kd.R_alloc | apply Kd.R_drewN | apply Kd.R_drew)); exact HO_7.out) hb); replace HB := bsA HB hb; (try clear hb); (try clear hb2); (try clear hk); (try clear hi)) | ((with_reducible refine gate_callee (f := 21) rfl ?_); refine goesT (some 72) Tryd.func21 #[.string (x8_1 ++ t456)] ?_; (with_reducible refine (token_Scan.calls kj3 (x8_1 ++ t456) t457 t458 t459 _ ?side1 A52.out).mono ?_); (case side1 => first | (with_reducible exact HL_LErr) | exact ⟨LErr.below HL_LErr.out (hbT HB.out)⟩); rintro e w63 ⟨v460, rfl, ho0, hb⟩; refine ⟨_, rfl, ?_⟩; have HO461 := Aside0.mk (Kd.R_lower (Kd.R_new' ho0 (Kd.R_lt (by (with_reducible repeat (first | apply Kd.R_alloc | apply Kd.R_drewN | apply Kd.R_drew)); exact HO_7.out))) (below_size (hbT HB.out))); replace HO_7 := Aside0.mk (Kd.R_elder' (by (with_reducible repeat (first | apply Kd.R_alloc | apply Kd.R_drewN | apply Kd.R_drew)); exact HO_7.out) (Kd.R_base ho0) hb); replace HB := bsA HB hb; (try clear hb); (try clear hb2); (try clear hk); (try clear hi); (try clear ho0)))
                go_ret
                exact ⟨by first | rfl | (simp [errW_none, errW_some] <;> rfl) | (simp [*, errW_none, errW_some] <;> rfl), hbT HB.out⟩
            · rw [if_neg c51] at H
              exact absurd H (by simp)

end Go.Proofs.YthmcapdakplhdaaDoor.Pr

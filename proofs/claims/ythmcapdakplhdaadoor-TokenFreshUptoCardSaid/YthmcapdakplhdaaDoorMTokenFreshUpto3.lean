/-
Part 3 of the proof of the law TokenFreshUpto: texts Prx18, ShB, ExtSpell, PuBase, PuTok1, PuTok2, PuTok3, PuTok4, PuTok5, PuTok6, PuVal, ExtTok3.
-/
import Derived.Ground.MpProg
import Derived.IntWalk
import Derived.Shelf.LaysM
import Derived.Shelf.Pu.ErrVarParseUint
import Derived.Shelf.Pu.ParseUintPublic10
import Derived.Shelf.Small.Strs
import Derived.Shelf.Small.Utf8
import Derived.Shelf.Strconv.Lower
import Derived.Shelf.Strconv.ParseUint10
import Derived.Shelf.Strconv.ParseUint10At
import Derived.Shelf.Strconv.ParseUint10b16
import Derived.Shelf.Strconv.ParseUint10b32
import Derived.Shelf.Strconv.ParseUint10b64
import Derived.Shelf.Strconv.ParseUint10b8
import Derived.Shelf.Strconv.ParseUintEmpty
import Derived.Shelf.Strings.AsciiSet
import Derived.Shelf.Strings.Builder1
import Derived.Shelf.Strings.Builder2
import Derived.Shelf.Strings.BuilderF
import Derived.Shelf.Strings.BuilderK
import Derived.Shelf.Strings.Count
import Derived.Shelf.Strings.IndexAny
import Derived.Shelf.Strings.IndexAnyAll
import Derived.Shelf.Strings.Prefix
import Derived.Shelf.Strings.Replace
import Derived.Shelf.Strings.Runes
import Derived.Shelf.Strings.Search1
import Derived.Shelf.Strings.Search2
import Derived.Shelf.Strings.Search3
import Derived.Shelf.Strings.Shaped
import Derived.Shelf.Strings.Split
import Derived.Shelf.Strings.SplitShaped
import Derived.Shelf.Unicode.DecodeSlow
import Derived.Test.YthmcapdakplhdaaDoorMTokenFreshUpto0
import Derived.Test.YthmcapdakplhdaaDoorMTokenFreshUpto2
import Derived.Test.YthmcapdakplhdaaDoorProg
/-! ## text Prx18 -/
section
namespace Go.Proofs.YthmcapdakplhdaaDoor.Pr
open Go.RowKit Go.Proofs.YthmcapdakplhdaaDoorW.PrintWords Go.Proofs.YthmcapdakplhdaaDoorW.PrintLast Go.Proofs.YthmcapdakplhdaaDoorW.PrintMore
attribute [local go_sem] max2_int min2_int max_two min_two max_three min_three max_four min_four   -- for this text's walks alone
attribute [local go_sem high] Go.Proofs.YthmcapdakplhdaaDoor.isSome_setCell
set_option maxRecDepth 100000
set_option linter.unusedVariables false
set_option linter.unusedSimpArgs false

/-! ### token_quoted: function 53 -/
mutual
def token_quoted.l0 : Nat → ByteArray → List Int → Int → Int → Option (ByteArray)
  | 0, _, _, _, _ => none
  | k + 1, x0, x3, x8, x9 => if x9 < x8 then (if 0 ≤ x9 then (if x9 < (x0.size : Int) then (if (bt x0 x9) = 34 then (token_quoted.j1 k x0 x3 (bt x0 x9) x8 x9 true) else (token_quoted.j1 k x0 x3 (bt x0 x9) x8 x9 ((bt x0 x9) == 92))) else (none)) else (none)) else (if x3.length < 140737488355328 then (some (strOfNums (x3 ++ [34]))) else (none))
def token_quoted.j1 : Nat → ByteArray → List Int → Int → Int → Int → Bool → Option (ByteArray)
  | 0, _, _, _, _, _, _ => none
  | k + 1, x0, x3, x5, x8, x9, x19 => if x19 = true then ((some (([92, x5] : List Int) : List Int)).bind fun y448 => (if x3.length + y448.length < 140737488355328 then (token_quoted.l0 k x0 (x3 ++ y448) x8 (wrap64 (x9 + 1))) else (none))) else (if x5 = 10 then ((some (([92, 110] : List Int) : List Int)).bind fun y454 => (if x3.length + y454.length < 140737488355328 then (token_quoted.l0 k x0 (x3 ++ y454) x8 (wrap64 (x9 + 1))) else (none))) else (if x5 = 9 then ((some (([92, 116] : List Int) : List Int)).bind fun y460 => (if x3.length + y460.length < 140737488355328 then (token_quoted.l0 k x0 (x3 ++ y460) x8 (wrap64 (x9 + 1))) else (none))) else (if x5 < 32 then (if 0 ≤ (x5 / 16) then (if (x5 / 16) < 16 then (if 0 ≤ (Go.bits .and .u8 x5 15) then (if (Go.bits .and .u8 x5 15) < 16 then ((some (([92, 120, bt (⟨#[48, 49, 50, 51, 52, 53, 54, 55, 56, 57, 97, 98, 99, 100, 101, 102]⟩ : ByteArray) (x5 / 16), bt (⟨#[48, 49, 50, 51, 52, 53, 54, 55, 56, 57, 97, 98, 99, 100, 101, 102]⟩ : ByteArray) (Go.bits .and .u8 x5 15)] : List Int) : List Int)).bind fun y466 => (if x3.length + y466.length < 140737488355328 then (token_quoted.l0 k x0 (x3 ++ y466) x8 (wrap64 (x9 + 1))) else (none))) else (none)) else (none)) else (none)) else (none)) else (if x5 > 126 then (if 0 ≤ (x5 / 16) then (if (x5 / 16) < 16 then (if 0 ≤ (Go.bits .and .u8 x5 15) then (if (Go.bits .and .u8 x5 15) < 16 then ((some (([92, 120, bt (⟨#[48, 49, 50, 51, 52, 53, 54, 55, 56, 57, 97, 98, 99, 100, 101, 102]⟩ : ByteArray) (x5 / 16), bt (⟨#[48, 49, 50, 51, 52, 53, 54, 55, 56, 57, 97, 98, 99, 100, 101, 102]⟩ : ByteArray) (Go.bits .and .u8 x5 15)] : List Int) : List Int)).bind fun y472 => (if x3.length + y472.length < 140737488355328 then (token_quoted.l0 k x0 (x3 ++ y472) x8 (wrap64 (x9 + 1))) else (none))) else (none)) else (none)) else (none)) else (none)) else (if x3.length < 140737488355328 then (token_quoted.l0 k x0 (x3 ++ [x5]) x8 (wrap64 (x9 + 1))) else (none))))))
end
def token_quoted.f (k : Nat) (a0 : ByteArray) : Option (ByteArray) := token_quoted.l0 k a0 (([34] : List Int)) (a0.size : Int) 0
set_option maxRecDepth 100000 in
theorem token_quoted.l0_zero : ∀ y0 y1 y2 y3, token_quoted.l0 0 y0 y1 y2 y3 = none := fun _ _ _ _ => rfl
set_option maxRecDepth 100000 in
theorem token_quoted.j1_zero : ∀ y0 y1 y2 y3 y4 y5, token_quoted.j1 0 y0 y1 y2 y3 y4 y5 = none := fun _ _ _ _ _ _ => rfl
set_option maxRecDepth 100000 in
theorem token_quoted.mono_l : ∀ k, (∀ y0 y1 y2 y3, LeO (token_quoted.l0 k y0 y1 y2 y3) (token_quoted.l0 (k + 1) y0 y1 y2 y3)) ∧ (∀ y0 y1 y2 y3 y4 y5, LeO (token_quoted.j1 k y0 y1 y2 y3 y4 y5) (token_quoted.j1 (k + 1) y0 y1 y2 y3 y4 y5))
  | 0 => ⟨fun _ _ _ _ r h => by (unfold token_quoted.l0 at h; cases h), fun _ _ _ _ _ _ r h => by (unfold token_quoted.j1 at h; cases h)⟩
  | k + 1 => by
    obtain ⟨ih0, ih1⟩ := token_quoted.mono_l k
    refine ⟨?_, ?_⟩
    · intro y0 y1 y2 y3
      unfold token_quoted.l0
      repeat' first
      | (with_reducible exact ih0 _ _ _ _)
      | (with_reducible exact ih1 _ _ _ _ _ _)
      | (with_reducible exact LeO.refl _)
      | (with_reducible exact LeO.none _)
      | (with_reducible refine LeO.ite ?_ ?_)
      | (with_reducible refine LeO.bind ?_ (fun _ => ?_))
      | exact ih0 _ _ _ _
      | exact ih1 _ _ _ _ _ _
      | exact LeO.none _
      | refine LeO.ite ?_ ?_
      | refine LeO.bind ?_ (fun _ => ?_)
    · intro y0 y1 y2 y3 y4 y5
      unfold token_quoted.j1
      repeat' first
      | (with_reducible exact ih0 _ _ _ _)
      | (with_reducible exact ih1 _ _ _ _ _ _)
      | (with_reducible exact LeO.refl _)
      | (with_reducible exact LeO.none _)
      | (with_reducible refine LeO.ite ?_ ?_)
      | (with_reducible refine LeO.bind ?_ (fun _ => ?_))
      | exact ih0 _ _ _ _
      | exact ih1 _ _ _ _ _ _
      | exact LeO.none _
      | refine LeO.ite ?_ ?_
      | refine LeO.bind ?_ (fun _ => ?_)
set_option maxRecDepth 100000 in
theorem token_quoted.mono : ∀ a0 k, LeO (token_quoted.f k a0) (token_quoted.f (k + 1) a0) := by
  intro a0 k
  obtain ⟨ih0, ih1⟩ := token_quoted.mono_l k
  unfold token_quoted.f
  repeat' first
      | (with_reducible exact ih0 _ _ _ _)
      | (with_reducible exact ih1 _ _ _ _ _ _)
      | (with_reducible exact LeO.refl _)
      | (with_reducible exact LeO.none _)
      | (with_reducible refine LeO.ite ?_ ?_)
      | (with_reducible refine LeO.bind ?_ (fun _ => ?_))
      | exact ih0 _ _ _ _
      | exact ih1 _ _ _ _ _ _
      | exact LeO.none _
      | refine LeO.ite ?_ ?_
      | refine LeO.bind ?_ (fun _ => ?_)
def token_quoted.T14 : Bool × List (List Nat × List Nat) := (true, [([], []), ([], []), ([1], [1]), ([2], [2]), ([], []), ([4], [4]), ([5], [5]), ([3, 6], [3, 6]), ([0, 7], [0, 7]), ([8, 8, 0, 1, 2, 3, 4, 5, 6, 7, 8], [0, 8])])
def token_quoted.B14 : List Nat := [0, 0, 2, 6, 0, 16, 48, 126, 255, 511]
theorem token_quoted.tab14 : rtab .any (opsOf Tryd.f53 14) = token_quoted.T14 := by kernel_rfl
theorem token_quoted.bits14 : waitsOk token_quoted.T14.2 token_quoted.B14 = true := by kernel_rfl
set_option maxHeartbeats 8000000 in
set_option maxRecDepth 100000 in
theorem token_quoted.calls (k : Nat) (a0 : ByteArray) (r : ByteArray) (w : World) (h : token_quoted.f k a0 = some r) :
    Calls Tryd.prog 53 #[.string a0] w fun e w' => e = .returned (.string r) ∧ Below w.heap.size w w' := by
  have HB := Aside0.mk (Below.refl w.heap.size w)
  have H : (token_quoted.l0 k a0 (([34] : List Int)) (a0.size : Int) 0) = some r := h
  clear h
  obtain ⟨y442, hy442⟩ : ∃ y_ : List Int, y_ = (([34] : List Int)) := ⟨_, rfl⟩
  replace H : (token_quoted.l0 k a0 y442 (a0.size : Int) 0) = some r := by first | (rw [hy442]; with_reducible exact H) | (have H2_ := (Option.bind_some _ _).symm.trans H; rw [hy442]; with_reducible exact H2_) | (have H2_ := (Option.bind_some _ _).symm.trans H; with_reducible exact H2_) | with_reducible exact H | (rw [hy442]; exact H) | exact H
  have Ny442 := Aside0.mk hy442
  clear hy442
  have H' := Aside0.mk H
  clear H
  go_enter Tryd.func53, Tryd.ntmps53
  go_wp2_with (first | ((with_reducible refine gate_dst (N := 6) rfl ?_); refine Kd.R_lit (Kd.int .u8) _ 5 ?hg (N := 6) ?hd (xs := ([34] : List Int)) (inner := [.int .u8 34]) (ok := fun _ => True) (okp := fun _ => True) ?hr ?hp (fun _ hk => hk) trivial (Below.refl _ _) (Nat.le_refl _) (by simp) ?_; (case hd => rfl); (case hg => rfl); (case hr => first | (go_simp; done) | (go_simp; rfl)); (case hp => exact (Reps.one (show Kd.M (Kd.int .u8) _ _ _ 34 [.int .u8 34] from rfl) (Reps.none _ _))); intro v443 w2 ho3 hb hg_ hnew_; clear hg_ hnew_; (first | rw [← Ny442.out] at ho3 | (simp only [Int.reduceToNat] at ho3; rw [← Ny442.out] at ho3)); have HO444 := Aside0.mk (Kd.R_lower ho3 (below_size (hbT HB.out))); replace HB := bsA HB hb; clear hb ho3))
  go_loopg [3, 9] k (fun kq v3 v9 w' => ∃ (x3_1 : List Int) (x9_1 : Int), v9 = .int .i64 x9_1 ∧ Aside0 (token_quoted.l0 kq a0 x3_1 (a0.size : Int) x9_1 = some r) ∧ Aside0 (kq ≤ k) ∧ Aside0 (Kd.R (Kd.int .u8) 5 w' w.heap.size (fun _ => True) v3 x3_1) ∧ Aside0 (Below w.heap.size w w'))
  case atStart => exact ⟨(y442), (0), (by first | rfl | (simp; done) | (simp [*]; done) | (simp; unfold wrap64; omega) | (congr 1; (try rw [Bool.eq_iff_iff]); simp [List.isEmpty_iff]; done)), H', ⟨Nat.le_refl _⟩, ⟨by (with_reducible repeat (first | apply Kd.R_alloc | apply Kd.R_drewN | apply Kd.R_drew)); exact HO444.out⟩, ⟨hbT HB.out⟩⟩
  case round =>
    clear H'
    try clear p2
    obtain ⟨x3_1, x9_1, rfl, HA, HK1, HO_3, HB⟩ := hrel
    cases gk with
    | zero => (have HA2 := HA.out; clear HA; revert HA2; rw [token_quoted.l0_zero]; intro h_; cases h_)
    | succ k1 =>
      have H := HA.out
      clear HA
      simp only [token_quoted.l0] at H
      by_cases c4 : x9_1 < (a0.size : Int)
      · rw [if_pos c4] at H
        have c4b0 : decide (x9_1 < (a0.size : Int)) = true := decide_eq_true c4
        clear c4
        by_cases c5 : 0 ≤ x9_1
        · rw [if_pos c5] at H
          have c5b0 : decide (0 ≤ x9_1) = true := decide_eq_true c5
          clear c5
          by_cases c6 : x9_1 < (a0.size : Int)
          · rw [if_pos c6] at H
            have c6b0 : decide (x9_1 < (a0.size : Int)) = true := decide_eq_true c6
            clear c6
            have HC8 := Aside0.mk H
            clear H
            have p7 : 0 ≤ (x9_1 : Int) := of_decide_eq_true (by first | (with_reducible assumption) | assumption)
            have q7 : x9_1 < (a0.size : Int) := of_decide_eq_true (by first | (with_reducible assumption) | assumption)
            have hx7 := bt_at a0 x9_1
            replace p7 := eq_true p7
            replace q7 := eq_true q7
            go_upto_region 7 with (fail)
            go_cut [19] (fun v19 wc => ∃ (kq : Nat) (x19_7 : Bool), v19 = .bool x19_7 ∧ Aside0 (token_quoted.j1 kq a0 x3_1 (bt a0 x9_1) (a0.size : Int) x9_1 x19_7 = some r) ∧ Aside0 (kq ≤ k1) ∧ Aside0 (Kd.R (Kd.int .u8) 5 wc w.heap.size (fun _ => True) u3 x3_1) ∧ Aside0 (Below w.heap.size w wc))
            case first =>
              have H := HC8.out
              clear HC8
              by_cases c9 : (bt a0 x9_1) = 34
              · rw [if_pos c9] at H
                have c9b0 : ((bt a0 x9_1) == 34) = true := beq_iff_eq.mpr c9
                have c9b1 : ((bt a0 x9_1) != 34) = false := bne_eq_false_iff_eq.mpr c9
                clear c9
                (first | rw [c9b0] | (simp only [i64_w, i32_w, IntKind.wrap_u8, IntKind.wrap_u16, IntKind.wrap_u32]; rw [c9b0]) | skip)
                have H' := Aside0.mk H
                clear H
                go_wp2
                go_meet
                case rel => exact ⟨_, (true), (by first | rfl | (simp; done) | (simp [*]; done) | (simp; unfold wrap64; omega) | (congr 1; (try rw [Bool.eq_iff_iff]); simp [List.isEmpty_iff]; done)), H', ⟨by have := HK1.out; first | omega | exact Nat.le_refl _⟩, ⟨by (with_reducible repeat (first | apply Kd.R_alloc | apply Kd.R_drewN | apply Kd.R_drew)); exact HO_3.out⟩, ⟨hbT HB.out⟩⟩
              · rw [if_neg c9] at H
                have c9b0 : ((bt a0 x9_1) == 34) = false := beq_eq_false_iff_ne.mpr c9
                have c9b1 : ((bt a0 x9_1) != 34) = true := bne_iff_ne.mpr c9
                (first | rw [c9b0] | (simp only [i64_w, i32_w, IntKind.wrap_u8, IntKind.wrap_u16, IntKind.wrap_u32]; rw [c9b0]) | skip)
                have H' := Aside0.mk H
                clear H
                go_wp2
                go_meet
                case rel => exact ⟨_, (((bt a0 x9_1) == 92)), (by first | rfl | (simp; done) | (simp [*]; done) | (simp; unfold wrap64; omega) | (congr 1; (try rw [Bool.eq_iff_iff]); simp [List.isEmpty_iff]; done)), H', ⟨by have := HK1.out; first | omega | exact Nat.le_refl _⟩, ⟨by (with_reducible repeat (first | apply Kd.R_alloc | apply Kd.R_drewN | apply Kd.R_drew)); exact HO_3.out⟩, ⟨hbT HB.out⟩⟩
            case rest =>
              clear HC8
              try clear p2
              try clear c4
              try clear c4b0
              try clear c5
              try clear c5b0
              try clear c6
              try clear c6b0
              try clear p7
              try clear q7
              try clear hx7
              try clear c9
              try clear c9b0
              try clear c9b1
              try clear p2
              try clear p7
              try clear q7
              obtain ⟨kq, x19_7, rfl, HA, HJ7, HO_3, HB⟩ := hcut
              cases kq with
              | zero => (have HA2 := HA.out; clear HA; revert HA2; rw [token_quoted.j1_zero]; intro h_; cases h_)
              | succ kj7 =>
                have H := HA.out
                clear HA
                simp only [token_quoted.j1] at H
                by_cases c10 : x19_7 = true
                · subst c10
                  have H1 : ((some (([92, (bt a0 x9_1)] : List Int) : List Int)).bind fun y448 => (if x3_1.length + y448.length < 140737488355328 then (token_quoted.l0 kj7 a0 (x3_1 ++ y448) (a0.size : Int) (wrap64 (x9_1 + 1))) else (none))) = some r := by rw [if_pos rfl] at H; exact H
                  clear H
                  have H := H1
                  clear H1
                  obtain ⟨y448, hy448⟩ : ∃ y_ : List Int, y_ = (([92, (bt a0 x9_1)] : List Int)) := ⟨_, rfl⟩
                  replace H : (if x3_1.length + y448.length < 140737488355328 then (token_quoted.l0 kj7 a0 (x3_1 ++ y448) (a0.size : Int) (wrap64 (x9_1 + 1))) else (none)) = some r := by first | (rw [hy448]; with_reducible exact H) | (have H2_ := (Option.bind_some _ _).symm.trans H; rw [hy448]; with_reducible exact H2_) | (have H2_ := (Option.bind_some _ _).symm.trans H; with_reducible exact H2_) | with_reducible exact H | (rw [hy448]; exact H) | exact H
                  have Ny448 := Aside0.mk hy448
                  clear hy448
                  by_cases c11 : x3_1.length + y448.length < 140737488355328
                  · rw [if_pos c11] at H
                    have LMc11 := Aside0.mk c11
                    clear c11
                    obtain ⟨y451, hy451⟩ : ∃ y_ : List Int, y_ = (x3_1 ++ y448) := ⟨_, rfl⟩
                    replace H : (token_quoted.l0 kj7 a0 y451 (a0.size : Int) (wrap64 (x9_1 + 1))) = some r := by first | (rw [hy451]; with_reducible exact H) | (have H2_ := (Option.bind_some _ _).symm.trans H; rw [hy451]; with_reducible exact H2_) | (have H2_ := (Option.bind_some _ _).symm.trans H; with_reducible exact H2_) | with_reducible exact H | (rw [hy451]; exact H) | exact H
                    have Ny451 := Aside0.mk hy451
                    clear hy451
                    have H' := Aside0.mk H
                    clear H
                    go_wp2_with (first | ((with_reducible refine gate_dst (N := 28) rfl ?_); refine Kd.R_lit (Kd.int .u8) _ 5 ?hg (N := 28) ?hd (xs := ([92, (bt a0 x9_1)] : List Int)) (inner := [.int .u8 92, .int .u8 (bt a0 x9_1)]) (ok := fun _ => True) (okp := fun _ => True) ?hr ?hp (fun _ hk => hk) trivial (Below.refl _ _) (Nat.le_refl _) (by simp) ?_; (case hd => rfl); (case hg => rfl); (case hr => first | (go_simp; done) | (go_simp; rfl)); (case hp => exact (Reps.one (show Kd.M (Kd.int .u8) _ _ _ 92 [.int .u8 92] from rfl) (Reps.one (show Kd.M (Kd.int .u8) _ _ _ (bt a0 x9_1) [.int .u8 (bt a0 x9_1)] from rfl) (Reps.none _ _)))); intro v449 w12 ho13 hb hg_ hnew_; clear hg_ hnew_; (first | rw [← Ny448.out] at ho13 | (simp only [Int.reduceToNat] at ho13; rw [← Ny448.out] at ho13)); have HO450 := Aside0.mk (Kd.R_lower (Kd.R_new' ho13 (Kd.R_lt (by (with_reducible repeat (first | apply Kd.R_alloc | apply Kd.R_drewN | apply Kd.R_drew)); exact HO_3.out))) (below_size (hbT HB.out))); replace HO_3 := Aside0.mk (Kd.R_elder' (by (with_reducible repeat (first | apply Kd.R_alloc | apply Kd.R_drewN | apply Kd.R_drew)); exact HO_3.out) (Kd.R_base ho13) hb); replace HB := bsA HB hb; clear hb ho13; obtain ⟨Ao15, co15, eo15⟩ := Kd.R_slice HO450.out; subst eo15) | ((with_reducible refine gate_builtin (b := .append) (xs := #[.tmp 26, .tmp 28]) rfl ?_); at_builtin; refine Kd.R_append_rows (Kd.int .u8) (w0 := w) w.heap.size rfl (.tmp 26) (.tmp 28) 39 5 (.int .u8 0) 1 rfl Tryd.underlying39 info5 rfl (by decide) (by omega) u3 x3_1 y448 _ _ _ (fun k_ => some k_ ≠ (.slice Ao15 y448.length co15 : Value).ownBlock) (fun _ => False) rfl rfl ?aO ?aR (fun _ _ h => h) (fun _ h => h.elim) ?aF ?aB ?aS ?aL ?_; (case aR => repeat (first | exact (Kd.R_reads' HO450.out).2.2 | (with_reducible refine Kd.C_alloc ?_ _) | (with_reducible refine Kd.C_drewN ?_ _) | (with_reducible refine Kd.C_drew ?_))); (case aB => exact (hbT HB.out)); (case aF => exact (fun k_ hk => Kd.fresh' (Kd.R_lt (by (with_reducible repeat (first | apply Kd.R_alloc | apply Kd.R_drewN | apply Kd.R_drew)); exact HO450.out)) k_ hk)); (case aO => exact (by (with_reducible repeat (first | apply Kd.R_alloc | apply Kd.R_drewN | apply Kd.R_drew)); exact Kd.R_mono HO_3.out (fun _ hk => hk.2))); (case aS => exact (below_size (hbT HB.out))); (case aL => have := LMc11.out; omega); intro v452 w14 ho hb hg hat; rw [← Ny451.out] at ho; have n0_ := Aside0.mk (Kd.R_after (ok := (fun _ => True)) (by (with_reducible repeat (first | apply Kd.R_alloc | apply Kd.R_drewN | apply Kd.R_drew)); exact HO450.out) hg hat); have n1_ := Aside0.mk (hb); have n2_ := Aside0.mk (ho); clear HO450; clear HB; clear HO_3; have HO450 := n0_; have HB := n1_; have HO453 := n2_; clear n0_ n1_ n2_; clear ho hb hg hat))
                    go_roundg kj7
                    case measure => have := HK1.out; have := HJ7.out; omega
                    case rel => exact ⟨(y451), (wrap64 (x9_1 + 1)), (by first | rfl | (simp; done) | (simp [*]; done) | (simp; unfold wrap64; omega) | (congr 1; (try rw [Bool.eq_iff_iff]); simp [List.isEmpty_iff]; done)), H', ⟨by have := HK1.out; have := HJ7.out; omega⟩, ⟨by (with_reducible repeat (first | apply Kd.R_alloc | apply Kd.R_drewN | apply Kd.R_drew)); exact Kd.R_mono HO453.out (fun _ hk => trivial)⟩, ⟨hbT HB.out⟩⟩
                  · rw [if_neg c11] at H
                    exact absurd H (by simp)
                · replace c10 := Bool.eq_false_iff.mpr c10
                  subst c10
                  have H1 : (if (bt a0 x9_1) = 10 then ((some (([92, 110] : List Int) : List Int)).bind fun y454 => (if x3_1.length + y454.length < 140737488355328 then (token_quoted.l0 kj7 a0 (x3_1 ++ y454) (a0.size : Int) (wrap64 (x9_1 + 1))) else (none))) else (if (bt a0 x9_1) = 9 then ((some (([92, 116] : List Int) : List Int)).bind fun y460 => (if x3_1.length + y460.length < 140737488355328 then (token_quoted.l0 kj7 a0 (x3_1 ++ y460) (a0.size : Int) (wrap64 (x9_1 + 1))) else (none))) else (if (bt a0 x9_1) < 32 then (if 0 ≤ ((bt a0 x9_1) / 16) then (if ((bt a0 x9_1) / 16) < 16 then (if 0 ≤ (Go.bits .and .u8 (bt a0 x9_1) 15) then (if (Go.bits .and .u8 (bt a0 x9_1) 15) < 16 then ((some (([92, 120, bt (⟨#[48, 49, 50, 51, 52, 53, 54, 55, 56, 57, 97, 98, 99, 100, 101, 102]⟩ : ByteArray) ((bt a0 x9_1) / 16), bt (⟨#[48, 49, 50, 51, 52, 53, 54, 55, 56, 57, 97, 98, 99, 100, 101, 102]⟩ : ByteArray) (Go.bits .and .u8 (bt a0 x9_1) 15)] : List Int) : List Int)).bind fun y466 => (if x3_1.length + y466.length < 140737488355328 then (token_quoted.l0 kj7 a0 (x3_1 ++ y466) (a0.size : Int) (wrap64 (x9_1 + 1))) else (none))) else (none)) else (none)) else (none)) else (none)) else (if (bt a0 x9_1) > 126 then (if 0 ≤ ((bt a0 x9_1) / 16) then (if ((bt a0 x9_1) / 16) < 16 then (if 0 ≤ (Go.bits .and .u8 (bt a0 x9_1) 15) then (if (Go.bits .and .u8 (bt a0 x9_1) 15) < 16 then ((some (([92, 120, bt (⟨#[48, 49, 50, 51, 52, 53, 54, 55, 56, 57, 97, 98, 99, 100, 101, 102]⟩ : ByteArray) ((bt a0 x9_1) / 16), bt (⟨#[48, 49, 50, 51, 52, 53, 54, 55, 56, 57, 97, 98, 99, 100, 101, 102]⟩ : ByteArray) (Go.bits .and .u8 (bt a0 x9_1) 15)] : List Int) : List Int)).bind fun y472 => (if x3_1.length + y472.length < 140737488355328 then (token_quoted.l0 kj7 a0 (x3_1 ++ y472) (a0.size : Int) (wrap64 (x9_1 + 1))) else (none))) else (none)) else (none)) else (none)) else (none)) else (if x3_1.length < 140737488355328 then (token_quoted.l0 kj7 a0 (x3_1 ++ [(bt a0 x9_1)]) (a0.size : Int) (wrap64 (x9_1 + 1))) else (none)))))) = some r := by rw [if_neg (show ¬ (false = true) by decide)] at H; exact H
                  clear H
                  have H := H1
                  clear H1
                  by_cases c16 : (bt a0 x9_1) = 10
                  · rw [if_pos c16] at H
                    have c16b0 : ((bt a0 x9_1) == 10) = true := beq_iff_eq.mpr c16
                    have c16b1 : ((bt a0 x9_1) != 10) = false := bne_eq_false_iff_eq.mpr c16
                    clear c16
                    obtain ⟨y454, hy454⟩ : ∃ y_ : List Int, y_ = (([92, 110] : List Int)) := ⟨_, rfl⟩
                    replace H : (if x3_1.length + y454.length < 140737488355328 then (token_quoted.l0 kj7 a0 (x3_1 ++ y454) (a0.size : Int) (wrap64 (x9_1 + 1))) else (none)) = some r := by first | (rw [hy454]; with_reducible exact H) | (have H2_ := (Option.bind_some _ _).symm.trans H; rw [hy454]; with_reducible exact H2_) | (have H2_ := (Option.bind_some _ _).symm.trans H; with_reducible exact H2_) | with_reducible exact H | (rw [hy454]; exact H) | exact H
                    have Ny454 := Aside0.mk hy454
                    clear hy454
                    by_cases c17 : x3_1.length + y454.length < 140737488355328
                    · rw [if_pos c17] at H
                      have LMc17 := Aside0.mk c17
                      clear c17
                      obtain ⟨y457, hy457⟩ : ∃ y_ : List Int, y_ = (x3_1 ++ y454) := ⟨_, rfl⟩
                      replace H : (token_quoted.l0 kj7 a0 y457 (a0.size : Int) (wrap64 (x9_1 + 1))) = some r := by first | (rw [hy457]; with_reducible exact H) | (have H2_ := (Option.bind_some _ _).symm.trans H; rw [hy457]; with_reducible exact H2_) | (have H2_ := (Option.bind_some _ _).symm.trans H; with_reducible exact H2_) | with_reducible exact H | (rw [hy457]; exact H) | exact H
                      have Ny457 := Aside0.mk hy457
                      clear hy457
                      have H' := Aside0.mk H
                      clear H
                      go_wp2_with (first | ((with_reducible refine gate_dst (N := 34) rfl ?_); refine Kd.R_lit (Kd.int .u8) _ 5 ?hg (N := 34) ?hd (xs := ([92, 110] : List Int)) (inner := [.int .u8 92, .int .u8 110]) (ok := fun _ => True) (okp := fun _ => True) ?hr ?hp (fun _ hk => hk) trivial (Below.refl _ _) (Nat.le_refl _) (by simp) ?_; (case hd => rfl); (case hg => rfl); (case hr => first | (go_simp; done) | (go_simp; rfl)); (case hp => exact (Reps.one (show Kd.M (Kd.int .u8) _ _ _ 92 [.int .u8 92] from rfl) (Reps.one (show Kd.M (Kd.int .u8) _ _ _ 110 [.int .u8 110] from rfl) (Reps.none _ _)))); intro v455 w18 ho19 hb hg_ hnew_; clear hg_ hnew_; (first | rw [← Ny454.out] at ho19 | (simp only [Int.reduceToNat] at ho19; rw [← Ny454.out] at ho19)); have HO456 := Aside0.mk (Kd.R_lower (Kd.R_new' ho19 (Kd.R_lt (by (with_reducible repeat (first | apply Kd.R_alloc | apply Kd.R_drewN | apply Kd.R_drew)); exact HO_3.out))) (below_size (hbT HB.out))); replace HO_3 := Aside0.mk (Kd.R_elder' (by (with_reducible repeat (first | apply Kd.R_alloc | apply Kd.R_drewN | apply Kd.R_drew)); exact HO_3.out) (Kd.R_base ho19) hb); replace HB := bsA HB hb; clear hb ho19; obtain ⟨Ao21, co21, eo21⟩ := Kd.R_slice HO456.out; subst eo21) | ((with_reducible refine gate_builtin (b := .append) (xs := #[.tmp 33, .tmp 34]) rfl ?_); at_builtin; refine Kd.R_append_rows (Kd.int .u8) (w0 := w) w.heap.size rfl (.tmp 33) (.tmp 34) 39 5 (.int .u8 0) 1 rfl Tryd.underlying39 info5 rfl (by decide) (by omega) u3 x3_1 y454 _ _ _ (fun k_ => some k_ ≠ (.slice Ao21 y454.length co21 : Value).ownBlock) (fun _ => False) rfl rfl ?aO ?aR (fun _ _ h => h) (fun _ h => h.elim) ?aF ?aB ?aS ?aL ?_; (case aR => repeat (first | exact (Kd.R_reads' HO456.out).2.2 | (with_reducible refine Kd.C_alloc ?_ _) | (with_reducible refine Kd.C_drewN ?_ _) | (with_reducible refine Kd.C_drew ?_))); (case aB => exact (hbT HB.out)); (case aF => exact (fun k_ hk => Kd.fresh' (Kd.R_lt (by (with_reducible repeat (first | apply Kd.R_alloc | apply Kd.R_drewN | apply Kd.R_drew)); exact HO456.out)) k_ hk)); (case aO => exact (by (with_reducible repeat (first | apply Kd.R_alloc | apply Kd.R_drewN | apply Kd.R_drew)); exact Kd.R_mono HO_3.out (fun _ hk => hk.2))); (case aS => exact (below_size (hbT HB.out))); (case aL => have := LMc17.out; omega); intro v458 w20 ho hb hg hat; rw [← Ny457.out] at ho; have n0_ := Aside0.mk (Kd.R_after (ok := (fun _ => True)) (by (with_reducible repeat (first | apply Kd.R_alloc | apply Kd.R_drewN | apply Kd.R_drew)); exact HO456.out) hg hat); have n1_ := Aside0.mk (hb); have n2_ := Aside0.mk (ho); clear HO456; clear HB; clear HO_3; have HO456 := n0_; have HB := n1_; have HO459 := n2_; clear n0_ n1_ n2_; clear ho hb hg hat))
                      go_roundg kj7
                      case measure => have := HK1.out; have := HJ7.out; omega
                      case rel => exact ⟨(y457), (wrap64 (x9_1 + 1)), (by first | rfl | (simp; done) | (simp [*]; done) | (simp; unfold wrap64; omega) | (congr 1; (try rw [Bool.eq_iff_iff]); simp [List.isEmpty_iff]; done)), H', ⟨by have := HK1.out; have := HJ7.out; omega⟩, ⟨by (with_reducible repeat (first | apply Kd.R_alloc | apply Kd.R_drewN | apply Kd.R_drew)); exact Kd.R_mono HO459.out (fun _ hk => trivial)⟩, ⟨hbT HB.out⟩⟩
                    · rw [if_neg c17] at H
                      exact absurd H (by simp)
                  · rw [if_neg c16] at H
                    have c16b0 : ((bt a0 x9_1) == 10) = false := beq_eq_false_iff_ne.mpr c16
                    have c16b1 : ((bt a0 x9_1) != 10) = true := bne_iff_ne.mpr c16
                    by_cases c22 : (bt a0 x9_1) = 9
                    · rw [if_pos c22] at H
                      have c22b0 : ((bt a0 x9_1) == 9) = true := beq_iff_eq.mpr c22
                      have c22b1 : ((bt a0 x9_1) != 9) = false := bne_eq_false_iff_eq.mpr c22
                      clear c22
                      obtain ⟨y460, hy460⟩ : ∃ y_ : List Int, y_ = (([92, 116] : List Int)) := ⟨_, rfl⟩
                      replace H : (if x3_1.length + y460.length < 140737488355328 then (token_quoted.l0 kj7 a0 (x3_1 ++ y460) (a0.size : Int) (wrap64 (x9_1 + 1))) else (none)) = some r := by first | (rw [hy460]; with_reducible exact H) | (have H2_ := (Option.bind_some _ _).symm.trans H; rw [hy460]; with_reducible exact H2_) | (have H2_ := (Option.bind_some _ _).symm.trans H; with_reducible exact H2_) | with_reducible exact H | (rw [hy460]; exact H) | exact H
                      have Ny460 := Aside0.mk hy460
                      clear hy460
                      by_cases c23 : x3_1.length + y460.length < 140737488355328
                      · rw [if_pos c23] at H
                        have LMc23 := Aside0.mk c23
                        clear c23
                        obtain ⟨y463, hy463⟩ : ∃ y_ : List Int, y_ = (x3_1 ++ y460) := ⟨_, rfl⟩
                        replace H : (token_quoted.l0 kj7 a0 y463 (a0.size : Int) (wrap64 (x9_1 + 1))) = some r := by first | (rw [hy463]; with_reducible exact H) | (have H2_ := (Option.bind_some _ _).symm.trans H; rw [hy463]; with_reducible exact H2_) | (have H2_ := (Option.bind_some _ _).symm.trans H; with_reducible exact H2_) | with_reducible exact H | (rw [hy463]; exact H) | exact H
                        have Ny463 := Aside0.mk hy463
                        clear hy463
                        have H' := Aside0.mk H
                        clear H
                        go_wp2_with (first | ((with_reducible refine gate_dst (N := 40) rfl ?_); refine Kd.R_lit (Kd.int .u8) _ 5 ?hg (N := 40) ?hd (xs := ([92, 116] : List Int)) (inner := [.int .u8 92, .int .u8 116]) (ok := fun _ => True) (okp := fun _ => True) ?hr ?hp (fun _ hk => hk) trivial (Below.refl _ _) (Nat.le_refl _) (by simp) ?_; (case hd => rfl); (case hg => rfl); (case hr => first | (go_simp; done) | (go_simp; rfl)); (case hp => exact (Reps.one (show Kd.M (Kd.int .u8) _ _ _ 92 [.int .u8 92] from rfl) (Reps.one (show Kd.M (Kd.int .u8) _ _ _ 116 [.int .u8 116] from rfl) (Reps.none _ _)))); intro v461 w24 ho25 hb hg_ hnew_; clear hg_ hnew_; (first | rw [← Ny460.out] at ho25 | (simp only [Int.reduceToNat] at ho25; rw [← Ny460.out] at ho25)); have HO462 := Aside0.mk (Kd.R_lower (Kd.R_new' ho25 (Kd.R_lt (by (with_reducible repeat (first | apply Kd.R_alloc | apply Kd.R_drewN | apply Kd.R_drew)); exact HO_3.out))) (below_size (hbT HB.out))); replace HO_3 := Aside0.mk (Kd.R_elder' (by (with_reducible repeat (first | apply Kd.R_alloc | apply Kd.R_drewN | apply Kd.R_drew)); exact HO_3.out) (Kd.R_base ho25) hb); replace HB := bsA HB hb; clear hb ho25; obtain ⟨Ao27, co27, eo27⟩ := Kd.R_slice HO462.out; subst eo27) | ((with_reducible refine gate_builtin (b := .append) (xs := #[.tmp 39, .tmp 40]) rfl ?_); at_builtin; refine Kd.R_append_rows (Kd.int .u8) (w0 := w) w.heap.size rfl (.tmp 39) (.tmp 40) 39 5 (.int .u8 0) 1 rfl Tryd.underlying39 info5 rfl (by decide) (by omega) u3 x3_1 y460 _ _ _ (fun k_ => some k_ ≠ (.slice Ao27 y460.length co27 : Value).ownBlock) (fun _ => False) rfl rfl ?aO ?aR (fun _ _ h => h) (fun _ h => h.elim) ?aF ?aB ?aS ?aL ?_; (case aR => repeat (first | exact (Kd.R_reads' HO462.out).2.2 | (with_reducible refine Kd.C_alloc ?_ _) | (with_reducible refine Kd.C_drewN ?_ _) | (with_reducible refine Kd.C_drew ?_))); (case aB => exact (hbT HB.out)); (case aF => exact (fun k_ hk => Kd.fresh' (Kd.R_lt (by (with_reducible repeat (first | apply Kd.R_alloc | apply Kd.R_drewN | apply Kd.R_drew)); exact HO462.out)) k_ hk)); (case aO => exact (by (with_reducible repeat (first | apply Kd.R_alloc | apply Kd.R_drewN | apply Kd.R_drew)); exact Kd.R_mono HO_3.out (fun _ hk => hk.2))); (case aS => exact (below_size (hbT HB.out))); (case aL => have := LMc23.out; omega); intro v464 w26 ho hb hg hat; rw [← Ny463.out] at ho; have n0_ := Aside0.mk (Kd.R_after (ok := (fun _ => True)) (by (with_reducible repeat (first | apply Kd.R_alloc | apply Kd.R_drewN | apply Kd.R_drew)); exact HO462.out) hg hat); have n1_ := Aside0.mk (hb); have n2_ := Aside0.mk (ho); clear HO462; clear HB; clear HO_3; have HO462 := n0_; have HB := n1_; have HO465 := n2_; clear n0_ n1_ n2_; clear ho hb hg hat))
                        go_roundg kj7
                        case measure => have := HK1.out; have := HJ7.out; omega
                        case rel => exact ⟨(y463), (wrap64 (x9_1 + 1)), (by first | rfl | (simp; done) | (simp [*]; done) | (simp; unfold wrap64; omega) | (congr 1; (try rw [Bool.eq_iff_iff]); simp [List.isEmpty_iff]; done)), H', ⟨by have := HK1.out; have := HJ7.out; omega⟩, ⟨by (with_reducible repeat (first | apply Kd.R_alloc | apply Kd.R_drewN | apply Kd.R_drew)); exact Kd.R_mono HO465.out (fun _ hk => trivial)⟩, ⟨hbT HB.out⟩⟩
                      · rw [if_neg c23] at H
                        exact absurd H (by simp)
                    · rw [if_neg c22] at H
                      have c22b0 : ((bt a0 x9_1) == 9) = false := beq_eq_false_iff_ne.mpr c22
                      have c22b1 : ((bt a0 x9_1) != 9) = true := bne_iff_ne.mpr c22
                      by_cases c28 : (bt a0 x9_1) < 32
                      · rw [if_pos c28] at H
                        have c28b0 : decide ((bt a0 x9_1) < 32) = true := decide_eq_true c28
                        clear c28
                        obtain ⟨ji29, hji29⟩ : ∃ j_ : Int, ((bt a0 x9_1) / 16) = j_ := ⟨_, rfl⟩
                        replace H : (if 0 ≤ (ji29) then (if (ji29) < 16 then (if 0 ≤ (Go.bits .and .u8 (bt a0 x9_1) 15) then (if (Go.bits .and .u8 (bt a0 x9_1) 15) < 16 then ((some (([92, 120, bt (⟨#[48, 49, 50, 51, 52, 53, 54, 55, 56, 57, 97, 98, 99, 100, 101, 102]⟩ : ByteArray) (ji29), bt (⟨#[48, 49, 50, 51, 52, 53, 54, 55, 56, 57, 97, 98, 99, 100, 101, 102]⟩ : ByteArray) (Go.bits .and .u8 (bt a0 x9_1) 15)] : List Int) : List Int)).bind fun y466 => (if x3_1.length + y466.length < 140737488355328 then (token_quoted.l0 kj7 a0 (x3_1 ++ y466) (a0.size : Int) (wrap64 (x9_1 + 1))) else (none))) else (none)) else (none)) else (none)) else (none)) = some r := by first | (rw [hji29] at H; exact H) | (simp only [hji29] at H ⊢; exact H)
                        by_cases c30 : 0 ≤ (ji29)
                        · rw [if_pos c30] at H
                          have c30b0 : decide (0 ≤ (ji29)) = true := decide_eq_true c30
                          clear c30
                          by_cases c31 : (ji29) < 16
                          · rw [if_pos c31] at H
                            have c31b0 : decide ((ji29) < 16) = true := decide_eq_true c31
                            clear c31
                            by_cases c33 : 0 ≤ (Go.bits .and .u8 (bt a0 x9_1) 15)
                            · rw [if_pos c33] at H
                              have c33b0 : decide (0 ≤ (Go.bits .and .u8 (bt a0 x9_1) 15)) = true := decide_eq_true c33
                              clear c33
                              by_cases c34 : (Go.bits .and .u8 (bt a0 x9_1) 15) < 16
                              · rw [if_pos c34] at H
                                have c34b0 : decide ((Go.bits .and .u8 (bt a0 x9_1) 15) < 16) = true := decide_eq_true c34
                                clear c34
                                obtain ⟨y466, hy466⟩ : ∃ y_ : List Int, y_ = (([92, 120, bt (⟨#[48, 49, 50, 51, 52, 53, 54, 55, 56, 57, 97, 98, 99, 100, 101, 102]⟩ : ByteArray) (ji29), bt (⟨#[48, 49, 50, 51, 52, 53, 54, 55, 56, 57, 97, 98, 99, 100, 101, 102]⟩ : ByteArray) (Go.bits .and .u8 (bt a0 x9_1) 15)] : List Int)) := ⟨_, rfl⟩
                                replace H : (if x3_1.length + y466.length < 140737488355328 then (token_quoted.l0 kj7 a0 (x3_1 ++ y466) (a0.size : Int) (wrap64 (x9_1 + 1))) else (none)) = some r := by first | (rw [hy466]; with_reducible exact H) | (have H2_ := (Option.bind_some _ _).symm.trans H; rw [hy466]; with_reducible exact H2_) | (have H2_ := (Option.bind_some _ _).symm.trans H; with_reducible exact H2_) | with_reducible exact H | (rw [hy466]; exact H) | exact H
                                have Ny466 := Aside0.mk hy466
                                clear hy466
                                by_cases c36 : x3_1.length + y466.length < 140737488355328
                                · rw [if_pos c36] at H
                                  have LMc36 := Aside0.mk c36
                                  clear c36
                                  obtain ⟨y469, hy469⟩ : ∃ y_ : List Int, y_ = (x3_1 ++ y466) := ⟨_, rfl⟩
                                  replace H : (token_quoted.l0 kj7 a0 y469 (a0.size : Int) (wrap64 (x9_1 + 1))) = some r := by first | (rw [hy469]; with_reducible exact H) | (have H2_ := (Option.bind_some _ _).symm.trans H; rw [hy469]; with_reducible exact H2_) | (have H2_ := (Option.bind_some _ _).symm.trans H; with_reducible exact H2_) | with_reducible exact H | (rw [hy469]; exact H) | exact H
                                  have Ny469 := Aside0.mk hy469
                                  clear hy469
                                  have H' := Aside0.mk H
                                  clear H
                                  try go_wp2
                                  replace HO_3 := Aside0.mk (Kd.R_drew HO_3.out); replace HB := Aside0.mk (below_drew1 HB.out)
                                  have p32 : 0 ≤ ((ji29) : Int) := of_decide_eq_true (by first | (with_reducible assumption) | assumption)
                                  have q32 : (ji29) < (16 : Int) := of_decide_eq_true (by first | (with_reducible assumption) | assumption)
                                  have hx32 := bt_at (⟨#[48, 49, 50, 51, 52, 53, 54, 55, 56, 57, 97, 98, 99, 100, 101, 102]⟩ : ByteArray) (ji29)
                                  replace p32 := eq_true p32
                                  replace q32 := eq_true q32
                                  have p35 : 0 ≤ ((Go.bits .and .u8 (bt a0 x9_1) 15) : Int) := of_decide_eq_true (by first | (with_reducible assumption) | assumption)
                                  have q35 : (Go.bits .and .u8 (bt a0 x9_1) 15) < (16 : Int) := of_decide_eq_true (by first | (with_reducible assumption) | assumption)
                                  have hx35 := bt_at (⟨#[48, 49, 50, 51, 52, 53, 54, 55, 56, 57, 97, 98, 99, 100, 101, 102]⟩ : ByteArray) (Go.bits .and .u8 (bt a0 x9_1) 15)
                                  replace p35 := eq_true p35
                                  replace q35 := eq_true q35
                                  refine start_ (n := 10) (S := fun w' => True) (ds := []) #[false, false, false, false, false, false, false, false, false, false] (by kernel_rfl) rfl rfl trivial (fun hHeld => ?_); refine with_tabW token_quoted.tab14 token_quoted.bits14 (fun HT_ HW_ => ?_)
                                  generalize wc.drew = w37 at HO_3 HB hHeld ⊢
                                  refine pure_ (i := 0) (N := some 49) (v := ?_) (a' := ?_) #[true, false, false, false, false, false, false, false, false, false] rfl rfl (any_of HT_.out (by kernel_rfl)) (fun _ _ _ h => h) (Or.inl ⟨by rfl, ?_⟩) ?_ ?_
                                  rotate_left; (focus (intro w'; go_simp; with_reducible rfl)); rotate_left; (focus (simp only [Act.put, List.setIfInBounds_toArray, List.set_cons_zero, List.set_cons_succ, i64_w, i32_w, IntKind.wrap_u8, IntKind.wrap_u16, IntKind.wrap_u32]; rfl))
                                  refine pure_ (i := 1) (N := some 50) (v := ?_) (a' := ?_) #[true, true, false, false, false, false, false, false, false, false] rfl rfl (any_of HT_.out (by kernel_rfl)) (fun _ _ _ h => h) (Or.inl ⟨by rfl, ?_⟩) ?_ ?_
                                  rotate_left; (focus (intro w'; go_simp; with_reducible rfl)); rotate_left; (focus (simp only [Act.put, List.setIfInBounds_toArray, List.set_cons_zero, List.set_cons_succ, i64_w, i32_w, IntKind.wrap_u8, IntKind.wrap_u16, IntKind.wrap_u32]; rfl))
                                  refine pure_ (i := 2) (N := some 51) (v := ?_) (a' := ?_) #[true, true, true, false, false, false, false, false, false, false] rfl rfl (any_of HT_.out (by kernel_rfl)) (fun _ _ _ h => h) (Or.inl ⟨by rfl, ?_⟩) ?_ ?_
                                  rotate_left; (focus (intro w'; go_simp; with_reducible rfl)); rotate_left; (focus (simp only [Act.put, List.setIfInBounds_toArray, List.set_cons_zero, List.set_cons_succ, i64_w, i32_w, IntKind.wrap_u8, IntKind.wrap_u16, IntKind.wrap_u32]; rfl))
                                  refine pure_ (i := 4) (N := some 53) (v := ?_) (a' := ?_) #[true, true, true, false, true, false, false, false, false, false] rfl rfl (any_of HT_.out (by kernel_rfl)) (fun _ _ _ h => h) (Or.inl ⟨by rfl, ?_⟩) ?_ ?_
                                  rotate_left; (focus (intro w'; go_simp; with_reducible rfl)); rotate_left; (focus (simp only [Act.put, List.setIfInBounds_toArray, List.set_cons_zero, List.set_cons_succ, i64_w, i32_w, IntKind.wrap_u8, IntKind.wrap_u16, IntKind.wrap_u32]; rfl))
                                  refine pure_ (i := 5) (N := some 54) (v := ?_) (a' := ?_) #[true, true, true, false, true, true, false, false, false, false] rfl rfl (any_of HT_.out (by kernel_rfl)) (fun _ _ _ h => h) (Or.inl ⟨by rfl, ?_⟩) ?_ ?_
                                  rotate_left; (focus (intro w'; go_simp; with_reducible rfl)); rotate_left; (focus (simp only [Act.put, List.setIfInBounds_toArray, List.set_cons_zero, List.set_cons_succ, i64_w, i32_w, IntKind.wrap_u8, IntKind.wrap_u16, IntKind.wrap_u32]; rfl))
                                  refine take_ (i := 3) (N := some 52) (v := ?_) (a' := ?_) #[true, true, true, true, true, true, false, false, false, false] rfl rfl (take_ofW HT_.out HW_.out (by kernel_rfl)) (fun _ _ _ h => h) (Or.inl ⟨by rfl, ?_⟩) hHeld ?_ ?_
                                  rotate_left
                                  · intro w' _
                                    go_simp
                                    with_reducible rfl
                                  rotate_left
                                  · simp only [Act.put, List.setIfInBounds_toArray, List.set_cons_zero, List.set_cons_succ, i64_w, i32_w, IntKind.wrap_u8, IntKind.wrap_u16, IntKind.wrap_u32]
                                    rfl
                                  refine take_ (i := 6) (N := some 55) (v := ?_) (a' := ?_) #[true, true, true, true, true, true, true, false, false, false] rfl rfl (take_ofW HT_.out HW_.out (by kernel_rfl)) (fun _ _ _ h => h) (Or.inl ⟨by rfl, ?_⟩) hHeld ?_ ?_
                                  rotate_left
                                  · intro w' _
                                    go_simp
                                    with_reducible rfl
                                  rotate_left
                                  · simp only [Act.put, List.setIfInBounds_toArray, List.set_cons_zero, List.set_cons_succ, i64_w, i32_w, IntKind.wrap_u8, IntKind.wrap_u16, IntKind.wrap_u32]
                                    rfl
                                  refine one_ (i := 7) (N := some 56) #[true, true, true, true, true, true, true, true, false, false] rfl rfl (one_of HT_.out (by kernel_rfl)) (by decide) (fun K hK => ?_)
                                  refine Kd.R_lit_step (Kd.int .u8) _ 5 ?hg (N := 56) ?hd (xs := ([92, 120, bt (⟨#[48, 49, 50, 51, 52, 53, 54, 55, 56, 57, 97, 98, 99, 100, 101, 102]⟩ : ByteArray) (ji29), bt (⟨#[48, 49, 50, 51, 52, 53, 54, 55, 56, 57, 97, 98, 99, 100, 101, 102]⟩ : ByteArray) (Go.bits .and .u8 (bt a0 x9_1) 15)] : List Int)) (inner := [.int .u8 92, .int .u8 120, .int .u8 (bt (⟨#[48, 49, 50, 51, 52, 53, 54, 55, 56, 57, 97, 98, 99, 100, 101, 102]⟩ : ByteArray) (ji29)), .int .u8 (bt (⟨#[48, 49, 50, 51, 52, 53, 54, 55, 56, 57, 97, 98, 99, 100, 101, 102]⟩ : ByteArray) (Go.bits .and .u8 (bt a0 x9_1) 15))]) (ok := fun _ => True) (okp := fun _ => True) ?hr ?hp (fun _ hk => hk) trivial (Below.refl _ _) (Nat.le_refl _) (by simp) ?_; (case hd => rfl); (case hg => rfl); (case hr => first | (go_simp; done) | (go_simp; rfl)); (case hp => exact (Reps.one (show Kd.M (Kd.int .u8) _ _ _ 92 [.int .u8 92] from rfl) (Reps.one (show Kd.M (Kd.int .u8) _ _ _ 120 [.int .u8 120] from rfl) (Reps.one (show Kd.M (Kd.int .u8) _ _ _ (bt (⟨#[48, 49, 50, 51, 52, 53, 54, 55, 56, 57, 97, 98, 99, 100, 101, 102]⟩ : ByteArray) (ji29)) [.int .u8 (bt (⟨#[48, 49, 50, 51, 52, 53, 54, 55, 56, 57, 97, 98, 99, 100, 101, 102]⟩ : ByteArray) (ji29))] from rfl) (Reps.one (show Kd.M (Kd.int .u8) _ _ _ (bt (⟨#[48, 49, 50, 51, 52, 53, 54, 55, 56, 57, 97, 98, 99, 100, 101, 102]⟩ : ByteArray) (Go.bits .and .u8 (bt a0 x9_1) 15)) [.int .u8 (bt (⟨#[48, 49, 50, 51, 52, 53, 54, 55, 56, 57, 97, 98, 99, 100, 101, 102]⟩ : ByteArray) (Go.bits .and .u8 (bt a0 x9_1) 15))] from rfl) (Reps.none _ _))))))
                                  intro v467 w38 ho39 hb hg_ hnew_
                                  clear hg_ hnew_
                                  (first | rw [← Ny466.out] at ho39 | (simp only [Int.reduceToNat] at ho39; rw [← Ny466.out] at ho39))
                                  have HO468 := Aside0.mk (Kd.R_lower (Kd.R_new' ho39 (Kd.R_lt (by (with_reducible repeat (first | apply Kd.R_alloc | apply Kd.R_drewN | apply Kd.R_drew)); exact HO_3.out))) (below_size (hbT HB.out))); replace HO_3 := Aside0.mk (Kd.R_elder' (by (with_reducible repeat (first | apply Kd.R_alloc | apply Kd.R_drewN | apply Kd.R_drew)); exact HO_3.out) (Kd.R_base ho39) hb); replace HB := bsA HB hb
                                  clear hb ho39
                                  obtain ⟨Ao41, co41, eo41⟩ := Kd.R_slice HO468.out
                                  (first | subst eo41 | (injection eo41 with f1_ f2_ f3_; have f4_ := f1_.symm; have f5_ := f3_.symm; clear f1_ f2_ f3_; subst f4_; subst f5_))
                                  refine hK.out _ _ trivial (fun hHeld => ?_)
                                  clear hK K
                                  refine norm_ (a' := ?_) ?_ ?_
                                  rotate_left
                                  · show Act.put _ (some 56) _ = _
                                    simp only [Act.put, List.setIfInBounds_toArray, List.set_cons_zero, List.set_cons_succ, i64_w, i32_w, IntKind.wrap_u8, IntKind.wrap_u16, IntKind.wrap_u32]
                                    rfl
                                  refine one_ (i := 8) (N := some 57) #[true, true, true, true, true, true, true, true, true, false] rfl rfl (one_of HT_.out (by kernel_rfl)) (by decide) (fun K hK => ?_)
                                  refine Kd.R_append_rows_step (Kd.int .u8) (w0 := w) w.heap.size (by rfl) (.tmp 49) (.tmp 56) 39 5 (.int .u8 0) 1 rfl Tryd.underlying39 info5 rfl (by decide) (by omega) u3 x3_1 y466 _ _ _ (fun k_ => some k_ ≠ (.slice Ao41 y466.length co41 : Value).ownBlock) (fun _ => False) rfl rfl ?aO ?aR (fun _ _ h => h) (fun _ h => h.elim) ?aF ?aB ?aS ?aL ?_
                                  (case aR => repeat (first | exact (Kd.R_reads' HO468.out).2.2 | (with_reducible refine Kd.C_alloc ?_ _) | (with_reducible refine Kd.C_drewN ?_ _) | (with_reducible refine Kd.C_drew ?_)))
                                  (case aB => exact (hbT HB.out))
                                  (case aF => exact (fun k_ hk => Kd.fresh' (Kd.R_lt (by (with_reducible repeat (first | apply Kd.R_alloc | apply Kd.R_drewN | apply Kd.R_drew)); exact HO468.out)) k_ hk))
                                  (case aO => exact (by (with_reducible repeat (first | apply Kd.R_alloc | apply Kd.R_drewN | apply Kd.R_drew)); exact Kd.R_mono HO_3.out (fun _ hk => hk.2)))
                                  (case aS => exact (below_size (hbT HB.out)))
                                  (case aL => have := LMc36.out; omega)
                                  intro v470 w40 ho hb hg hat
                                  rw [← Ny469.out] at ho
                                  have n0_ := Aside0.mk (Kd.R_after (ok := (fun _ => True)) (by (with_reducible repeat (first | apply Kd.R_alloc | apply Kd.R_drewN | apply Kd.R_drew)); exact HO468.out) hg hat); have n1_ := Aside0.mk (hb); have n2_ := Aside0.mk (ho); clear HO468; clear HB; clear HO_3; have HO468 := n0_; have HB := n1_; have HO471 := n2_; clear n0_ n1_ n2_
                                  clear ho hb hg hat
                                  refine hK.out _ _ trivial (fun hHeld => ?_)
                                  clear hK K
                                  refine norm_ (a' := ?_) ?_ ?_
                                  rotate_left
                                  · show Act.put _ (some 57) _ = _
                                    simp only [Act.put, List.setIfInBounds_toArray, List.set_cons_zero, List.set_cons_succ, i64_w, i32_w, IntKind.wrap_u8, IntKind.wrap_u16, IntKind.wrap_u32]
                                    rfl
                                  refine pure_ (i := 9) (N := some 3) (v := ?_) (a' := ?_) #[true, true, true, true, true, true, true, true, true, true] rfl rfl (any_of HT_.out (by kernel_rfl)) (fun _ _ _ h => h) (Or.inl ⟨by rfl, ?_⟩) ?_ ?_
                                  rotate_left; (focus (intro w'; go_simp; with_reducible rfl)); rotate_left; (focus (simp only [Act.put, List.setIfInBounds_toArray, List.set_cons_zero, List.set_cons_succ, i64_w, i32_w, IntKind.wrap_u8, IntKind.wrap_u16, IntKind.wrap_u32]; rfl))
                                  refine done_ (done_of HT_.out (by kernel_rfl)) ?_
                                  try go_wp2
                                  go_roundg kj7
                                  case measure => have := HK1.out; have := HJ7.out; omega
                                  case rel => exact ⟨(y469), (wrap64 (x9_1 + 1)), (by first | rfl | (simp; done) | (simp [*]; done) | (simp; unfold wrap64; omega) | (congr 1; (try rw [Bool.eq_iff_iff]); simp [List.isEmpty_iff]; done)), H', ⟨by have := HK1.out; have := HJ7.out; omega⟩, ⟨by (with_reducible repeat (first | apply Kd.R_alloc | apply Kd.R_drewN | apply Kd.R_drew)); exact Kd.R_mono HO471.out (fun _ hk => trivial)⟩, ⟨hbT HB.out⟩⟩
                                · rw [if_neg c36] at H
                                  exact absurd H (by simp)
                              · rw [if_neg c34] at H
                                exact absurd H (by simp)
                            · rw [if_neg c33] at H
                              exact absurd H (by simp)
                          · rw [if_neg c31] at H
                            exact absurd H (by simp)
                        · rw [if_neg c30] at H
                          exact absurd H (by simp)
                      · rw [if_neg c28] at H
                        have c28b0 : decide ((bt a0 x9_1) < 32) = false := decide_eq_false c28
                        clear c28
                        by_cases c42 : (bt a0 x9_1) > 126
                        · rw [if_pos c42] at H
                          have c42b0 : decide (126 < (bt a0 x9_1)) = true := decide_eq_true c42
                          clear c42
                          obtain ⟨ji43, hji43⟩ : ∃ j_ : Int, ((bt a0 x9_1) / 16) = j_ := ⟨_, rfl⟩
                          replace H : (if 0 ≤ (ji43) then (if (ji43) < 16 then (if 0 ≤ (Go.bits .and .u8 (bt a0 x9_1) 15) then (if (Go.bits .and .u8 (bt a0 x9_1) 15) < 16 then ((some (([92, 120, bt (⟨#[48, 49, 50, 51, 52, 53, 54, 55, 56, 57, 97, 98, 99, 100, 101, 102]⟩ : ByteArray) (ji43), bt (⟨#[48, 49, 50, 51, 52, 53, 54, 55, 56, 57, 97, 98, 99, 100, 101, 102]⟩ : ByteArray) (Go.bits .and .u8 (bt a0 x9_1) 15)] : List Int) : List Int)).bind fun y472 => (if x3_1.length + y472.length < 140737488355328 then (token_quoted.l0 kj7 a0 (x3_1 ++ y472) (a0.size : Int) (wrap64 (x9_1 + 1))) else (none))) else (none)) else (none)) else (none)) else (none)) = some r := by first | (rw [hji43] at H; exact H) | (simp only [hji43] at H ⊢; exact H)
                          by_cases c44 : 0 ≤ (ji43)
                          · rw [if_pos c44] at H
                            have c44b0 : decide (0 ≤ (ji43)) = true := decide_eq_true c44
                            clear c44
                            by_cases c45 : (ji43) < 16
                            · rw [if_pos c45] at H
                              have c45b0 : decide ((ji43) < 16) = true := decide_eq_true c45
                              clear c45
                              by_cases c47 : 0 ≤ (Go.bits .and .u8 (bt a0 x9_1) 15)
                              · rw [if_pos c47] at H
                                have c47b0 : decide (0 ≤ (Go.bits .and .u8 (bt a0 x9_1) 15)) = true := decide_eq_true c47
                                clear c47
                                by_cases c48 : (Go.bits .and .u8 (bt a0 x9_1) 15) < 16
                                · rw [if_pos c48] at H
                                  have c48b0 : decide ((Go.bits .and .u8 (bt a0 x9_1) 15) < 16) = true := decide_eq_true c48
                                  clear c48
                                  obtain ⟨y472, hy472⟩ : ∃ y_ : List Int, y_ = (([92, 120, bt (⟨#[48, 49, 50, 51, 52, 53, 54, 55, 56, 57, 97, 98, 99, 100, 101, 102]⟩ : ByteArray) (ji43), bt (⟨#[48, 49, 50, 51, 52, 53, 54, 55, 56, 57, 97, 98, 99, 100, 101, 102]⟩ : ByteArray) (Go.bits .and .u8 (bt a0 x9_1) 15)] : List Int)) := ⟨_, rfl⟩
                                  replace H : (if x3_1.length + y472.length < 140737488355328 then (token_quoted.l0 kj7 a0 (x3_1 ++ y472) (a0.size : Int) (wrap64 (x9_1 + 1))) else (none)) = some r := by first | (rw [hy472]; with_reducible exact H) | (have H2_ := (Option.bind_some _ _).symm.trans H; rw [hy472]; with_reducible exact H2_) | (have H2_ := (Option.bind_some _ _).symm.trans H; with_reducible exact H2_) | with_reducible exact H | (rw [hy472]; exact H) | exact H
                                  have Ny472 := Aside0.mk hy472
                                  clear hy472
                                  by_cases c50 : x3_1.length + y472.length < 140737488355328
                                  · rw [if_pos c50] at H
                                    have LMc50 := Aside0.mk c50
                                    clear c50
                                    obtain ⟨y475, hy475⟩ : ∃ y_ : List Int, y_ = (x3_1 ++ y472) := ⟨_, rfl⟩
                                    replace H : (token_quoted.l0 kj7 a0 y475 (a0.size : Int) (wrap64 (x9_1 + 1))) = some r := by first | (rw [hy475]; with_reducible exact H) | (have H2_ := (Option.bind_some _ _).symm.trans H; rw [hy475]; with_reducible exact H2_) | (have H2_ := (Option.bind_some _ _).symm.trans H; with_reducible exact H2_) | with_reducible exact H | (rw [hy475]; exact H) | exact H
                                    have Ny475 := Aside0.mk hy475
                                    clear hy475
                                    have H' := Aside0.mk H
                                    clear H
                                    try go_wp2
                                    replace HO_3 := Aside0.mk (Kd.R_drew HO_3.out); replace HB := Aside0.mk (below_drew1 HB.out)
                                    have p46 : 0 ≤ ((ji43) : Int) := of_decide_eq_true (by first | (with_reducible assumption) | assumption)
                                    have q46 : (ji43) < (16 : Int) := of_decide_eq_true (by first | (with_reducible assumption) | assumption)
                                    have hx46 := bt_at (⟨#[48, 49, 50, 51, 52, 53, 54, 55, 56, 57, 97, 98, 99, 100, 101, 102]⟩ : ByteArray) (ji43)
                                    replace p46 := eq_true p46
                                    replace q46 := eq_true q46
                                    have p49 : 0 ≤ ((Go.bits .and .u8 (bt a0 x9_1) 15) : Int) := of_decide_eq_true (by first | (with_reducible assumption) | assumption)
                                    have q49 : (Go.bits .and .u8 (bt a0 x9_1) 15) < (16 : Int) := of_decide_eq_true (by first | (with_reducible assumption) | assumption)
                                    have hx49 := bt_at (⟨#[48, 49, 50, 51, 52, 53, 54, 55, 56, 57, 97, 98, 99, 100, 101, 102]⟩ : ByteArray) (Go.bits .and .u8 (bt a0 x9_1) 15)
                                    replace p49 := eq_true p49
                                    replace q49 := eq_true q49
                                    refine start_ (n := 10) (S := fun w' => True) (ds := []) #[false, false, false, false, false, false, false, false, false, false] (by kernel_rfl) rfl rfl trivial (fun hHeld => ?_); refine with_tabW token_quoted.tab14 token_quoted.bits14 (fun HT_ HW_ => ?_)
                                    generalize wc.drew = w51 at HO_3 HB hHeld ⊢
                                    refine pure_ (i := 0) (N := some 49) (v := ?_) (a' := ?_) #[true, false, false, false, false, false, false, false, false, false] rfl rfl (any_of HT_.out (by kernel_rfl)) (fun _ _ _ h => h) (Or.inl ⟨by rfl, ?_⟩) ?_ ?_
                                    rotate_left; (focus (intro w'; go_simp; with_reducible rfl)); rotate_left; (focus (simp only [Act.put, List.setIfInBounds_toArray, List.set_cons_zero, List.set_cons_succ, i64_w, i32_w, IntKind.wrap_u8, IntKind.wrap_u16, IntKind.wrap_u32]; rfl))
                                    refine pure_ (i := 1) (N := some 50) (v := ?_) (a' := ?_) #[true, true, false, false, false, false, false, false, false, false] rfl rfl (any_of HT_.out (by kernel_rfl)) (fun _ _ _ h => h) (Or.inl ⟨by rfl, ?_⟩) ?_ ?_
                                    rotate_left; (focus (intro w'; go_simp; with_reducible rfl)); rotate_left; (focus (simp only [Act.put, List.setIfInBounds_toArray, List.set_cons_zero, List.set_cons_succ, i64_w, i32_w, IntKind.wrap_u8, IntKind.wrap_u16, IntKind.wrap_u32]; rfl))
                                    refine pure_ (i := 2) (N := some 51) (v := ?_) (a' := ?_) #[true, true, true, false, false, false, false, false, false, false] rfl rfl (any_of HT_.out (by kernel_rfl)) (fun _ _ _ h => h) (Or.inl ⟨by rfl, ?_⟩) ?_ ?_
                                    rotate_left; (focus (intro w'; go_simp; with_reducible rfl)); rotate_left; (focus (simp only [Act.put, List.setIfInBounds_toArray, List.set_cons_zero, List.set_cons_succ, i64_w, i32_w, IntKind.wrap_u8, IntKind.wrap_u16, IntKind.wrap_u32]; rfl))
                                    refine pure_ (i := 4) (N := some 53) (v := ?_) (a' := ?_) #[true, true, true, false, true, false, false, false, false, false] rfl rfl (any_of HT_.out (by kernel_rfl)) (fun _ _ _ h => h) (Or.inl ⟨by rfl, ?_⟩) ?_ ?_
                                    rotate_left; (focus (intro w'; go_simp; with_reducible rfl)); rotate_left; (focus (simp only [Act.put, List.setIfInBounds_toArray, List.set_cons_zero, List.set_cons_succ, i64_w, i32_w, IntKind.wrap_u8, IntKind.wrap_u16, IntKind.wrap_u32]; rfl))
                                    refine pure_ (i := 5) (N := some 54) (v := ?_) (a' := ?_) #[true, true, true, false, true, true, false, false, false, false] rfl rfl (any_of HT_.out (by kernel_rfl)) (fun _ _ _ h => h) (Or.inl ⟨by rfl, ?_⟩) ?_ ?_
                                    rotate_left; (focus (intro w'; go_simp; with_reducible rfl)); rotate_left; (focus (simp only [Act.put, List.setIfInBounds_toArray, List.set_cons_zero, List.set_cons_succ, i64_w, i32_w, IntKind.wrap_u8, IntKind.wrap_u16, IntKind.wrap_u32]; rfl))
                                    refine take_ (i := 3) (N := some 52) (v := ?_) (a' := ?_) #[true, true, true, true, true, true, false, false, false, false] rfl rfl (take_ofW HT_.out HW_.out (by kernel_rfl)) (fun _ _ _ h => h) (Or.inl ⟨by rfl, ?_⟩) hHeld ?_ ?_
                                    rotate_left
                                    · intro w' _
                                      go_simp
                                      with_reducible rfl
                                    rotate_left
                                    · simp only [Act.put, List.setIfInBounds_toArray, List.set_cons_zero, List.set_cons_succ, i64_w, i32_w, IntKind.wrap_u8, IntKind.wrap_u16, IntKind.wrap_u32]
                                      rfl
                                    refine take_ (i := 6) (N := some 55) (v := ?_) (a' := ?_) #[true, true, true, true, true, true, true, false, false, false] rfl rfl (take_ofW HT_.out HW_.out (by kernel_rfl)) (fun _ _ _ h => h) (Or.inl ⟨by rfl, ?_⟩) hHeld ?_ ?_
                                    rotate_left
                                    · intro w' _
                                      go_simp
                                      with_reducible rfl
                                    rotate_left
                                    · simp only [Act.put, List.setIfInBounds_toArray, List.set_cons_zero, List.set_cons_succ, i64_w, i32_w, IntKind.wrap_u8, IntKind.wrap_u16, IntKind.wrap_u32]
                                      rfl
                                    refine one_ (i := 7) (N := some 56) #[true, true, true, true, true, true, true, true, false, false] rfl rfl (one_of HT_.out (by kernel_rfl)) (by decide) (fun K hK => ?_)
                                    refine Kd.R_lit_step (Kd.int .u8) _ 5 ?hg (N := 56) ?hd (xs := ([92, 120, bt (⟨#[48, 49, 50, 51, 52, 53, 54, 55, 56, 57, 97, 98, 99, 100, 101, 102]⟩ : ByteArray) (ji43), bt (⟨#[48, 49, 50, 51, 52, 53, 54, 55, 56, 57, 97, 98, 99, 100, 101, 102]⟩ : ByteArray) (Go.bits .and .u8 (bt a0 x9_1) 15)] : List Int)) (inner := [.int .u8 92, .int .u8 120, .int .u8 (bt (⟨#[48, 49, 50, 51, 52, 53, 54, 55, 56, 57, 97, 98, 99, 100, 101, 102]⟩ : ByteArray) (ji43)), .int .u8 (bt (⟨#[48, 49, 50, 51, 52, 53, 54, 55, 56, 57, 97, 98, 99, 100, 101, 102]⟩ : ByteArray) (Go.bits .and .u8 (bt a0 x9_1) 15))]) (ok := fun _ => True) (okp := fun _ => True) ?hr ?hp (fun _ hk => hk) trivial (Below.refl _ _) (Nat.le_refl _) (by simp) ?_; (case hd => rfl); (case hg => rfl); (case hr => first | (go_simp; done) | (go_simp; rfl)); (case hp => exact (Reps.one (show Kd.M (Kd.int .u8) _ _ _ 92 [.int .u8 92] from rfl) (Reps.one (show Kd.M (Kd.int .u8) _ _ _ 120 [.int .u8 120] from rfl) (Reps.one (show Kd.M (Kd.int .u8) _ _ _ (bt (⟨#[48, 49, 50, 51, 52, 53, 54, 55, 56, 57, 97, 98, 99, 100, 101, 102]⟩ : ByteArray) (ji43)) [.int .u8 (bt (⟨#[48, 49, 50, 51, 52, 53, 54, 55, 56, 57, 97, 98, 99, 100, 101, 102]⟩ : ByteArray) (ji43))] from rfl) (Reps.one (show Kd.M (Kd.int .u8) _ _ _ (bt (⟨#[48, 49, 50, 51, 52, 53, 54, 55, 56, 57, 97, 98, 99, 100, 101, 102]⟩ : ByteArray) (Go.bits .and .u8 (bt a0 x9_1) 15)) [.int .u8 (bt (⟨#[48, 49, 50, 51, 52, 53, 54, 55, 56, 57, 97, 98, 99, 100, 101, 102]⟩ : ByteArray) (Go.bits .and .u8 (bt a0 x9_1) 15))] from rfl) (Reps.none _ _))))))
                                    intro v473 w52 ho53 hb hg_ hnew_
                                    clear hg_ hnew_
                                    (first | rw [← Ny472.out] at ho53 | (simp only [Int.reduceToNat] at ho53; rw [← Ny472.out] at ho53))
                                    have HO474 := Aside0.mk (Kd.R_lower (Kd.R_new' ho53 (Kd.R_lt (by (with_reducible repeat (first | apply Kd.R_alloc | apply Kd.R_drewN | apply Kd.R_drew)); exact HO_3.out))) (below_size (hbT HB.out))); replace HO_3 := Aside0.mk (Kd.R_elder' (by (with_reducible repeat (first | apply Kd.R_alloc | apply Kd.R_drewN | apply Kd.R_drew)); exact HO_3.out) (Kd.R_base ho53) hb); replace HB := bsA HB hb
                                    clear hb ho53
                                    obtain ⟨Ao55, co55, eo55⟩ := Kd.R_slice HO474.out
                                    (first | subst eo55 | (injection eo55 with f1_ f2_ f3_; have f4_ := f1_.symm; have f5_ := f3_.symm; clear f1_ f2_ f3_; subst f4_; subst f5_))
                                    refine hK.out _ _ trivial (fun hHeld => ?_)
                                    clear hK K
                                    refine norm_ (a' := ?_) ?_ ?_
                                    rotate_left
                                    · show Act.put _ (some 56) _ = _
                                      simp only [Act.put, List.setIfInBounds_toArray, List.set_cons_zero, List.set_cons_succ, i64_w, i32_w, IntKind.wrap_u8, IntKind.wrap_u16, IntKind.wrap_u32]
                                      rfl
                                    refine one_ (i := 8) (N := some 57) #[true, true, true, true, true, true, true, true, true, false] rfl rfl (one_of HT_.out (by kernel_rfl)) (by decide) (fun K hK => ?_)
                                    refine Kd.R_append_rows_step (Kd.int .u8) (w0 := w) w.heap.size (by rfl) (.tmp 49) (.tmp 56) 39 5 (.int .u8 0) 1 rfl Tryd.underlying39 info5 rfl (by decide) (by omega) u3 x3_1 y472 _ _ _ (fun k_ => some k_ ≠ (.slice Ao55 y472.length co55 : Value).ownBlock) (fun _ => False) rfl rfl ?aO ?aR (fun _ _ h => h) (fun _ h => h.elim) ?aF ?aB ?aS ?aL ?_
                                    (case aR => repeat (first | exact (Kd.R_reads' HO474.out).2.2 | (with_reducible refine Kd.C_alloc ?_ _) | (with_reducible refine Kd.C_drewN ?_ _) | (with_reducible refine Kd.C_drew ?_)))
                                    (case aB => exact (hbT HB.out))
                                    (case aF => exact (fun k_ hk => Kd.fresh' (Kd.R_lt (by (with_reducible repeat (first | apply Kd.R_alloc | apply Kd.R_drewN | apply Kd.R_drew)); exact HO474.out)) k_ hk))
                                    (case aO => exact (by (with_reducible repeat (first | apply Kd.R_alloc | apply Kd.R_drewN | apply Kd.R_drew)); exact Kd.R_mono HO_3.out (fun _ hk => hk.2)))
                                    (case aS => exact (below_size (hbT HB.out)))
                                    (case aL => have := LMc50.out; omega)
                                    intro v476 w54 ho hb hg hat
                                    rw [← Ny475.out] at ho
                                    have n0_ := Aside0.mk (Kd.R_after (ok := (fun _ => True)) (by (with_reducible repeat (first | apply Kd.R_alloc | apply Kd.R_drewN | apply Kd.R_drew)); exact HO474.out) hg hat); have n1_ := Aside0.mk (hb); have n2_ := Aside0.mk (ho); clear HO474; clear HB; clear HO_3; have HO474 := n0_; have HB := n1_; have HO477 := n2_; clear n0_ n1_ n2_
                                    clear ho hb hg hat
                                    refine hK.out _ _ trivial (fun hHeld => ?_)
                                    clear hK K
                                    refine norm_ (a' := ?_) ?_ ?_
                                    rotate_left
                                    · show Act.put _ (some 57) _ = _
                                      simp only [Act.put, List.setIfInBounds_toArray, List.set_cons_zero, List.set_cons_succ, i64_w, i32_w, IntKind.wrap_u8, IntKind.wrap_u16, IntKind.wrap_u32]
                                      rfl
                                    refine pure_ (i := 9) (N := some 3) (v := ?_) (a' := ?_) #[true, true, true, true, true, true, true, true, true, true] rfl rfl (any_of HT_.out (by kernel_rfl)) (fun _ _ _ h => h) (Or.inl ⟨by rfl, ?_⟩) ?_ ?_
                                    rotate_left; (focus (intro w'; go_simp; with_reducible rfl)); rotate_left; (focus (simp only [Act.put, List.setIfInBounds_toArray, List.set_cons_zero, List.set_cons_succ, i64_w, i32_w, IntKind.wrap_u8, IntKind.wrap_u16, IntKind.wrap_u32]; rfl))
                                    refine done_ (done_of HT_.out (by kernel_rfl)) ?_
                                    try go_wp2
                                    go_roundg kj7
                                    case measure => have := HK1.out; have := HJ7.out; omega
                                    case rel => exact ⟨(y475), (wrap64 (x9_1 + 1)), (by first | rfl | (simp; done) | (simp [*]; done) | (simp; unfold wrap64; omega) | (congr 1; (try rw [Bool.eq_iff_iff]); simp [List.isEmpty_iff]; done)), H', ⟨by have := HK1.out; have := HJ7.out; omega⟩, ⟨by (with_reducible repeat (first | apply Kd.R_alloc | apply Kd.R_drewN | apply Kd.R_drew)); exact Kd.R_mono HO477.out (fun _ hk => trivial)⟩, ⟨hbT HB.out⟩⟩
                                  · rw [if_neg c50] at H
                                    exact absurd H (by simp)
                                · rw [if_neg c48] at H
                                  exact absurd H (by simp)
                              · rw [if_neg c47] at H
                                exact absurd H (by simp)
                            · rw [if_neg c45] at H
                              exact absurd H (by simp)
                          · rw [if_neg c44] at H
                            exact absurd H (by simp)
                        · rw [if_neg c42] at H
                          have c42b0 : decide (126 < (bt a0 x9_1)) = false := decide_eq_false c42
                          clear c42
                          by_cases c56 : x3_1.length < 140737488355328
                          · rw [if_pos c56] at H
                            have LMc56 := Aside0.mk c56
                            clear c56
                            obtain ⟨y478, hy478⟩ : ∃ y_ : List Int, y_ = (x3_1 ++ [(bt a0 x9_1)]) := ⟨_, rfl⟩
                            replace H : (token_quoted.l0 kj7 a0 y478 (a0.size : Int) (wrap64 (x9_1 + 1))) = some r := by first | (rw [hy478]; with_reducible exact H) | (have H2_ := (Option.bind_some _ _).symm.trans H; rw [hy478]; with_reducible exact H2_) | (have H2_ := (Option.bind_some _ _).symm.trans H; with_reducible exact H2_) | with_reducible exact H | (rw [hy478]; exact H) | exact H
                            have Ny478 := Aside0.mk hy478
                            clear hy478
                            have H' := Aside0.mk H
                            clear H
                            go_wp2_with (first | ((with_reducible refine gate_builtin (b := .append) (xs := #[.tmp 15, .tmp 17]) rfl ?_); at_builtin; refine Kd.R_append (Kd.int .u8) (w0 := w) w.heap.size rfl (.tmp 15) (.tmp 17) 39 5 (.int .u8 0) 1 rfl Tryd.underlying39 info5 rfl (by decide) (by omega) u3 x3_1 (bt a0 x9_1) [.int .u8 (bt a0 x9_1)] (fun _ => True) (fun _ => False) rfl rfl ?aP (fun _ hk => hk.elim) ?aF ?aO ?aB ?aS ?aL ?_; (case aP => exact rfl); (case aB => exact (hbT HB.out)); (case aF => exact (fun _ _ => trivial)); (case aO => exact (by (with_reducible repeat (first | apply Kd.R_alloc | apply Kd.R_drewN | apply Kd.R_drew)); exact HO_3.out)); (case aS => exact (below_size (hbT HB.out))); (case aL => have := LMc56.out; omega); intro v479 w57 ho hb hg hat; rw [← Ny478.out] at ho; have n0_ := Aside0.mk (hb); have n1_ := Aside0.mk (ho); clear HB; clear HO_3; have HB := n0_; have HO480 := n1_; clear n0_ n1_; clear ho hb hg hat))
                            go_roundg kj7
                            case measure => have := HK1.out; have := HJ7.out; omega
                            case rel => exact ⟨(y478), (wrap64 (x9_1 + 1)), (by first | rfl | (simp; done) | (simp [*]; done) | (simp; unfold wrap64; omega) | (congr 1; (try rw [Bool.eq_iff_iff]); simp [List.isEmpty_iff]; done)), H', ⟨by have := HK1.out; have := HJ7.out; omega⟩, ⟨by (with_reducible repeat (first | apply Kd.R_alloc | apply Kd.R_drewN | apply Kd.R_drew)); exact HO480.out⟩, ⟨hbT HB.out⟩⟩
                          · rw [if_neg c56] at H
                            exact absurd H (by simp)
          · rw [if_neg c6] at H
            exact absurd H (by simp)
        · rw [if_neg c5] at H
          exact absurd H (by simp)
      · rw [if_neg c4] at H
        have c4b0 : decide (x9_1 < (a0.size : Int)) = false := decide_eq_false c4
        clear c4
        by_cases c58 : x3_1.length < 140737488355328
        · rw [if_pos c58] at H
          have LMc58 := Aside0.mk c58
          clear c58
          obtain ⟨y445, hy445⟩ : ∃ y_ : List Int, y_ = (x3_1 ++ [34]) := ⟨_, rfl⟩
          replace H : (some (strOfNums y445)) = some r := by first | (rw [hy445]; with_reducible exact H) | (have H2_ := (Option.bind_some _ _).symm.trans H; rw [hy445]; with_reducible exact H2_) | (have H2_ := (Option.bind_some _ _).symm.trans H; with_reducible exact H2_) | with_reducible exact H | (rw [hy445]; exact H) | exact H
          have Ny445 := Aside0.mk hy445
          clear hy445
          obtain rfl := Option.some.inj H
          go_wp2_with (first | ((with_reducible refine gate_builtin (b := .append) (xs := #[.tmp 59, .tmp 60]) rfl ?_); at_builtin; refine Kd.R_append (Kd.int .u8) (w0 := w) w.heap.size rfl (.tmp 59) (.tmp 60) 39 5 (.int .u8 0) 1 rfl Tryd.underlying39 info5 rfl (by decide) (by omega) u3 x3_1 34 [.int .u8 34] (fun _ => True) (fun _ => False) rfl rfl ?aP (fun _ hk => hk.elim) ?aF ?aO ?aB ?aS ?aL ?_; (case aP => exact rfl); (case aB => exact (hbT HB.out)); (case aF => exact (fun _ _ => trivial)); (case aO => exact (by (with_reducible repeat (first | apply Kd.R_alloc | apply Kd.R_drewN | apply Kd.R_drew)); exact HO_3.out)); (case aS => exact (below_size (hbT HB.out))); (case aL => have := LMc58.out; omega); intro v446 w59 ho hb hg hat; rw [← Ny445.out] at ho; have n0_ := Aside0.mk (hb); have n1_ := Aside0.mk (ho); clear HB; clear HO_3; have HB := n0_; have HO447 := n1_; clear n0_ n1_; clear ho hb hg hat; have hcv60 := own_string (P := Tryd.prog) Tryd.underlying39 Tryd.underlying5 Tryd.underlying9 (Kd.own_of_R HO447.out)))
          go_ret
          exact ⟨by first | rfl | (simp [errW_none, errW_some] <;> rfl) | (simp [*, errW_none, errW_some] <;> rfl), hbT HB.out⟩
        · rw [if_neg c58] at H
          exact absurd H (by simp)

end Go.Proofs.YthmcapdakplhdaaDoor.Pr
end

/-! ## text ShB -/
section
namespace Go.Proofs
open Go.Shelf
def Tryd.lays170_ren : Go.Shelf.Ren := ⟨fun | 170 => 42 | n => n, fun | 70 => 79 | 3 => 3 | 0 => 0 | 72 => 81 | 37 => 39 | 5 => 5 | n => n, fun | n => n⟩
theorem Tryd.lays170 : Go.Proofs.Lays.n170 Tryd.prog Tryd.lays170_ren := {
  mixed := by kernel_rfl
  f170 := Tryd.func42.trans (congrArg some (by kernel_rfl))
  t0 := Tryd.underlying0
  a0 := Tryd.isAgg0
  z0 := Tryd.sizeOf0
  v0 := Tryd.zeroValue0
  t3 := Tryd.underlying3
  a3 := Tryd.isAgg3
  z3 := Tryd.sizeOf3
  v3 := Tryd.zeroValue3
  t37 := Tryd.underlying39
  a37 := Tryd.isAgg39
  z37 := Tryd.sizeOf39
  v37 := Tryd.zeroValue39
  t70 := Tryd.underlying79
  a70 := Tryd.isAgg79
  z70 := Tryd.sizeOf79
  v70 := Tryd.zeroValue79
  t72 := Tryd.underlying81
  a72 := Tryd.isAgg81
  z72 := Tryd.sizeOf81
  v72 := Tryd.zeroValue81 }
def Tryd.lays169_ren : Go.Shelf.Ren := ⟨fun | 169 => 43 | n => n, fun | 70 => 79 | 9 => 9 | 0 => 0 | 72 => 81 | 37 => 39 | 127 => 103 | 3 => 3 | 5 => 5 | n => n, fun | n => n⟩
theorem Tryd.lays169 : Go.Proofs.Lays.n169 Tryd.prog Tryd.lays169_ren := {
  mixed := by kernel_rfl
  f169 := Tryd.func43.trans (congrArg some (by kernel_rfl))
  t0 := Tryd.underlying0
  a0 := Tryd.isAgg0
  z0 := Tryd.sizeOf0
  v0 := Tryd.zeroValue0
  t3 := Tryd.underlying3
  a3 := Tryd.isAgg3
  z3 := Tryd.sizeOf3
  v3 := Tryd.zeroValue3
  t9 := Tryd.underlying9
  a9 := Tryd.isAgg9
  z9 := Tryd.sizeOf9
  v9 := Tryd.zeroValue9
  t37 := Tryd.underlying39
  a37 := Tryd.isAgg39
  z37 := Tryd.sizeOf39
  v37 := Tryd.zeroValue39
  t70 := Tryd.underlying79
  a70 := Tryd.isAgg79
  z70 := Tryd.sizeOf79
  v70 := Tryd.zeroValue79
  t72 := Tryd.underlying81
  a72 := Tryd.isAgg81
  z72 := Tryd.sizeOf81
  v72 := Tryd.zeroValue81
  t127 := Tryd.underlying103
  a127 := Tryd.isAgg103
  z127 := Tryd.sizeOf103
  v127 := Tryd.zeroValue103 }
theorem Tryd.Builder_Extra_169 : Builder.Extra Tryd.prog Tryd.lays169_ren := {
  sizeBuilder := by kernel_rfl
  liesBuilder := by kernel_rfl
  t5 := Tryd.underlying5
  a5 := Tryd.isAgg5
  z5 := Tryd.sizeOf5
  v5 := Tryd.zeroValue5
  infoByte := by kernel_rfl
  cellsByte := by kernel_rfl
  sizeByte := by kernel_rfl
  neB5 := by decide }
open Go.RowKit in
/-- (*strings.Builder).Len: "Len returns the number of accumulated bytes; b.Len() == len(b.String()).": the world is as it was. (THE FORM '_f': 'Lib.IsBuilderF'.) (LAID: no walk: one application.) -/
theorem Tryd.Builder_Len_f (B b : Nat) (bs : List Value) (w : World) (h : Lib.IsBuilderF 81 5 B b bs w) :
    Calls Tryd.prog 42 #[.pointer (some ⟨b, 0, none⟩)] w fun e w' => e = .returned (.int .i64 bs.length) ∧ w' = w := Any.Builder_Len_f Tryd.lays170 B b bs w h
open Go.RowKit in
/-- (*strings.Builder).String: "String returns the accumulated string.": WHATEVER THE BUILDER HOLDS; THE FORM '_k': OVER 'Lib.IsBuilderF' (a builder that 'String()' may have read), AND WITH THE FRAME THAT REACHES ABOVE THE BUILDER: 'Lib.OthersKept': every block that is not b and is no row of uint8's stands as it stood: the iterator of a range among them. (LAID: no walk: one application.) -/
theorem Tryd.Builder_String_any_k (B b : Nat) (l : List UInt8) (w : World) (h : Lib.IsBuilderF 81 5 B b (Lib.byteCells l) w) (hBw : B ≤ w.heap.size) :
    Calls Tryd.prog 43 #[.pointer (some ⟨b, 0, none⟩)] w fun e w' => e = .returned (.string ⟨l.toArray⟩) ∧ (Lib.IsBuilderF 81 5 B b (Lib.byteCells l) w' ∧ Below B w w' ∧ Lib.OthersKept 5 (some b) w w') := Any.Builder_String_any_k Tryd.lays169 Tryd.Builder_Extra_169 B b l w h hBw
def Tryd.lays167_ren : Go.Shelf.Ren := ⟨fun | 167 => 39 | 240 => 61 | 276 => 75 | n => n, fun | 0 => 0 | 4 => 4 | 5 => 5 | 9 => 9 | 20 => 20 | 37 => 39 | 70 => 79 | 72 => 81 | 75 => 83 | 80 => 89 | 164 => 117 | n => n, fun | n => n⟩
theorem Tryd.lays167 : Go.Proofs.Lays.n167 Tryd.prog Tryd.lays167_ren := {
  mixed := by kernel_rfl
  f167 := Tryd.func39.trans (congrArg some (by kernel_rfl))
  f240 := Tryd.func61.trans (congrArg some (by kernel_rfl))
  f276 := Tryd.func75.trans (congrArg some (by kernel_rfl))
  t0 := Tryd.underlying0
  a0 := Tryd.isAgg0
  z0 := Tryd.sizeOf0
  v0 := Tryd.zeroValue0
  t4 := Tryd.underlying4
  a4 := Tryd.isAgg4
  z4 := Tryd.sizeOf4
  v4 := Tryd.zeroValue4
  t5 := Tryd.underlying5
  a5 := Tryd.isAgg5
  z5 := Tryd.sizeOf5
  v5 := Tryd.zeroValue5
  t9 := Tryd.underlying9
  a9 := Tryd.isAgg9
  z9 := Tryd.sizeOf9
  v9 := Tryd.zeroValue9
  t20 := Tryd.underlying20
  a20 := Tryd.isAgg20
  z20 := Tryd.sizeOf20
  v20 := Tryd.zeroValue20
  t37 := Tryd.underlying39
  a37 := Tryd.isAgg39
  z37 := Tryd.sizeOf39
  v37 := Tryd.zeroValue39
  t70 := Tryd.underlying79
  a70 := Tryd.isAgg79
  z70 := Tryd.sizeOf79
  v70 := Tryd.zeroValue79
  t72 := Tryd.underlying81
  a72 := Tryd.isAgg81
  z72 := Tryd.sizeOf81
  v72 := Tryd.zeroValue81
  t75 := Tryd.underlying83
  a75 := Tryd.isAgg83
  z75 := Tryd.sizeOf83
  v75 := Tryd.zeroValue83
  t164 := Tryd.underlying117
  a164 := Tryd.isAgg117
  z164 := Tryd.sizeOf117
  v164 := Tryd.zeroValue117 }
theorem Tryd.Builder_Extra_167 : Builder.Extra Tryd.prog Tryd.lays167_ren := {
  sizeBuilder := by kernel_rfl
  liesBuilder := by kernel_rfl
  t5 := Tryd.underlying5
  a5 := Tryd.isAgg5
  z5 := Tryd.sizeOf5
  v5 := Tryd.zeroValue5
  infoByte := by kernel_rfl
  cellsByte := by kernel_rfl
  sizeByte := by kernel_rfl
  neB5 := by decide }
def Tryd.lays166_ren : Go.Shelf.Ren := ⟨fun | 166 => 40 | 240 => 61 | 276 => 75 | n => n, fun | 0 => 0 | 3 => 3 | 4 => 4 | 5 => 5 | 9 => 9 | 20 => 20 | 37 => 39 | 70 => 79 | 72 => 81 | 75 => 83 | 80 => 89 | 164 => 117 | n => n, fun | n => n⟩
theorem Tryd.lays166 : Go.Proofs.Lays.n166 Tryd.prog Tryd.lays166_ren := {
  mixed := by kernel_rfl
  f166 := Tryd.func40.trans (congrArg some (by kernel_rfl))
  f240 := Tryd.func61.trans (congrArg some (by kernel_rfl))
  f276 := Tryd.func75.trans (congrArg some (by kernel_rfl))
  t0 := Tryd.underlying0
  a0 := Tryd.isAgg0
  z0 := Tryd.sizeOf0
  v0 := Tryd.zeroValue0
  t3 := Tryd.underlying3
  a3 := Tryd.isAgg3
  z3 := Tryd.sizeOf3
  v3 := Tryd.zeroValue3
  t4 := Tryd.underlying4
  a4 := Tryd.isAgg4
  z4 := Tryd.sizeOf4
  v4 := Tryd.zeroValue4
  t9 := Tryd.underlying9
  a9 := Tryd.isAgg9
  z9 := Tryd.sizeOf9
  v9 := Tryd.zeroValue9
  t20 := Tryd.underlying20
  a20 := Tryd.isAgg20
  z20 := Tryd.sizeOf20
  v20 := Tryd.zeroValue20
  t37 := Tryd.underlying39
  a37 := Tryd.isAgg39
  z37 := Tryd.sizeOf39
  v37 := Tryd.zeroValue39
  t70 := Tryd.underlying79
  a70 := Tryd.isAgg79
  z70 := Tryd.sizeOf79
  v70 := Tryd.zeroValue79
  t72 := Tryd.underlying81
  a72 := Tryd.isAgg81
  z72 := Tryd.sizeOf81
  v72 := Tryd.zeroValue81
  t75 := Tryd.underlying83
  a75 := Tryd.isAgg83
  z75 := Tryd.sizeOf83
  v75 := Tryd.zeroValue83
  t164 := Tryd.underlying117
  a164 := Tryd.isAgg117
  z164 := Tryd.sizeOf117
  v164 := Tryd.zeroValue117 }
theorem Tryd.Builder_Extra_166 : Builder.Extra Tryd.prog Tryd.lays166_ren := {
  sizeBuilder := by kernel_rfl
  liesBuilder := by kernel_rfl
  t5 := Tryd.underlying5
  a5 := Tryd.isAgg5
  z5 := Tryd.sizeOf5
  v5 := Tryd.zeroValue5
  infoByte := by kernel_rfl
  cellsByte := by kernel_rfl
  sizeByte := by kernel_rfl
  neB5 := by decide }
open Go.RowKit in
/-- (*strings.Builder).WriteByte: "WriteByte appends the byte c to b's buffer. The returned error is always nil.": UNDER Go's OWN LIMIT: the new length takes at most 2^47 bytes. (LAID: no walk: one application.) -/
theorem Tryd.Builder_WriteByte_k (B b : Nat) (bs : List Value) (c : Int) (w : World) (h : Lib.IsBuilderF 81 5 B b bs w) (hlen : bs.length + 1 ≤ 140737488355328) (hBw : B ≤ w.heap.size) :
    Calls Tryd.prog 39 #[.pointer (some ⟨b, 0, none⟩), .int .u8 c] w fun e w' => e = .returned .nilIface ∧ (Lib.BuilderAtF 81 5 B b (.pointer (some ⟨b, 0, none⟩)) (bs ++ [.int .u8 c]) w' ∧ Below B w w' ∧ Lib.OthersKept 5 (some b) w w') := Any.Builder_WriteByte_k Tryd.lays167 Tryd.Builder_Extra_167 B b bs c w h hlen hBw
open Go.RowKit in
/-- (*strings.Builder).WriteString: "WriteString appends the contents of s to b's buffer. It returns the length of s and a nil error.": UNDER Go's OWN LIMIT: the new length takes at most 2^47 bytes. THE FORM '_k': OVER 'Lib.IsBuilderF' (a builder that 'String()' may have read), AND WITH THE FRAME THAT REACHES ABOVE THE BUILDER: 'Lib.OthersKept': every block that is not b and is no row of uint8's stands as it stood: the iterator of a range among them.' HAS READ, TOO: the bytes go in BEHIND what is frozen, or, where there is no room, all goes over into a new row.) (LAID: no walk: one application.) -/
theorem Tryd.Builder_WriteString_k (B b : Nat) (bs : List Value) (s : ByteArray) (w : World) (h : Lib.IsBuilderF 81 5 B b bs w) (hlen : bs.length + s.size ≤ 140737488355328) (hBw : B ≤ w.heap.size) :
    Calls Tryd.prog 40 #[.pointer (some ⟨b, 0, none⟩), .string s] w fun e w' => e = .returned (.tuple #[.int .i64 s.size, .nilIface]) ∧ (Lib.BuilderAtF 81 5 B b (.pointer (some ⟨b, 0, none⟩)) (bs ++ Lib.strCells s) w' ∧ Below B w w' ∧ Lib.OthersKept 5 (some b) w w') := Any.Builder_WriteString_k Tryd.lays166 Tryd.Builder_Extra_166 B b bs s w h hlen hBw

end Go.Proofs
end

/-! ## text ExtSpell -/
section
namespace Go.Proofs.YthmcapdakplhdaaDoor.Pr
open Go.RowKit Go.Proofs.YthmcapdakplhdaaDoorW.PrintWords Go.Proofs.YthmcapdakplhdaaDoorW.PrintLast Go.Proofs.YthmcapdakplhdaaDoorW.PrintMore
set_option maxRecDepth 100000
set_option linter.unusedVariables false
set_option linter.unusedSimpArgs false
attribute [local go_sem high] Go.Proofs.YthmcapdakplhdaaDoor.isSome_setCell

/-- Are all tokens such as can be? (The last one may be the end.) -/
def spellOk (canB : S44 → Bool → Bool) : List S44 → Bool
  | [] => true
  | t :: r => canB t r.isEmpty && spellOk canB r
/-- What is written of tokens, behind what stands. -/
def spellW (quo : ByteArray → ByteArray) : List S44 → List UInt8 → ByteArray × Int
  | [], acc => (⟨acc.toArray⟩, 0)
  | t :: r, acc =>
    if t.f0 = 5 then (⟨acc.toArray⟩, 0)
    else if 4096 < ((if 0 < acc.length then acc ++ [32] else acc) ++ (if t.f0 = 3 then quo t.f1 else t.f1).data.toList).length then (⟨#[]⟩, 2)
    else spellW quo r ((if 0 < acc.length then acc ++ [32] else acc) ++ (if t.f0 = 3 then quo t.f1 else t.f1).data.toList)

theorem kept_cells {w w' : World} {b c : Nat} {o : Array Value} (h : Lib.OthersKept 5 (some b) w w') (hc : w.heap[c]? = some (.cells o 44 (0, 0))) (hb : c ≠ b) : w'.heap[c]? = some (.cells o 44 (0, 0)) :=
  h c _ hc (by simpa using hb) (by intro c' fz e; injection e; rename_i h1 h2 h3; exact absurd h2 (by decide))

theorem builder_belowS {T e : TypeId} {B b : Nat} {bs : List Value} {w w' : World} (h : Lib.IsBuilderF T e B b bs w) (hb : Below w.heap.size w w') : Lib.IsBuilderF T e B b bs w' := by
  have lt : ∀ k o, w.heap[k]? = some o → w'.heap[k]? = some o := fun k o h => by rw [hb.block k (Array.getElem?_eq_some_iff.1 h).1]; exact h
  have key : ∀ p, Lib.BuilderAtF T e B b p bs w → Lib.BuilderAtF T e B b p bs w' := by
    rintro p ⟨h1, v, h2, ⟨h3, h4⟩, h5⟩
    refine ⟨h1, v, lt _ _ h2, ⟨h3, ?_⟩, h5⟩
    rcases h4 with hn | ⟨g, cap, cur, fz, hv, hbg, hgg, rest⟩
    · exact .inl hn
    · exact .inr ⟨g, cap, cur, fz, hv, hbg, lt _ _ hgg, rest⟩
  rcases h with h | h
  · exact .inl (key _ h)
  · exact .inr (key _ h)
set_option maxHeartbeats 4000000 in
theorem spell_walk (canB : S44 → Bool → Bool) (quo : ByteArray → ByteArray) (A0 : Option Addr) (c0 : Nat) (l0 : List S44) (R1 : ByteArray) (R2 : Int) (w : World) (hr0 : Kd.C k44 w A0 l0.length l0) (hc0 : l0.length ≤ c0) (HN : Aside0 (l0.length ≤ 4611686018427387904)) (HL : Aside0 (LErr w))
    (HC : Aside0 (∀ t ∈ l0, ∀ b, ∃ k, token_canBe.f k t.f0 t.f1 t.f2 b = some (canB t b)))
    (HQ0 : Aside0 (spellOk canB l0 = true → ∀ t ∈ l0, ∃ k, token_quoted.f k t.f1 = some (quo t.f1)))
    (HS0 : Aside0 (spellOk canB l0 = true → ∀ t ∈ l0, t.f1.size ≤ 70368744177664 ∧ (quo t.f1).size ≤ 70368744177664))
    (HR : Aside0 ((if spellOk canB l0 = true then spellW quo l0 [] else (⟨#[]⟩, 1)) = (R1, R2))) :
    Calls Tryd.prog 23 #[.slice A0 l0.length c0] w fun e w' => e = .returned (.tuple #[.string R1, .int .i64 R2]) ∧ Below w.heap.size w w' := by
  have HR0 := Aside0.mk hr0
  clear hr0
  go_enter Tryd.func23, Tryd.ntmps23
  go_wp2
  go_loopw [11] (fun v w' => ∃ (i : Nat), v = .int .i64 i ∧ i ≤ l0.length ∧ Aside0 (spellOk canB l0 = spellOk canB (l0.drop i)) ∧ Aside0 (Below w.heap.size w w')) (fun v _ => l0.length - (match v with | .int _ i => i.toNat | _ => 0))
  case atStart => exact ⟨0, rfl, by omega, ⟨by simp⟩, ⟨by repeat (first | (with_reducible first | exact Below.refl _ _ | apply below_alloc | apply pw_below_drewN | apply below_drew1) | exact Below.refl _ _)⟩⟩
  case round =>
    obtain ⟨i, rfl, hi, HO, HB⟩ := hrel
    by_cases hlt : i < l0.length
    · as_aux_lemma =>
      have hd : decide ((i : Int) < (l0.length : Int)) = true := decide_eq_true (by omega)
      have p1 : 0 ≤ (i : Int) := by omega
      have q1 : (i : Int) < (l0.length : Int) := by omega
      obtain ⟨ad1, e1, hx1_0, hx1_1, hx1_2⟩ := at_T44 (Kd.C_below HR0.out HB.out) (i : Int) p1 q1
      cases e1
      (try simp only [Go.IntWalk.toNatUp] at hx1_0)
      (try simp only [Go.IntWalk.toNatUp] at hx1_1)
      (try simp only [Go.IntWalk.toNatUp] at hx1_2)
      replace p1 := eq_true p1
      replace q1 := eq_true q1
      have hmem : rd_T44 l0 (i : Int) ∈ l0 := by
        show l0.getD _ _ ∈ l0
        rw [Int.toNat_natCast, List.getD_eq_getElem?_getD, List.getElem?_eq_getElem hlt]
        exact List.getElem_mem _
      generalize hX : rd_T44 l0 (i : Int) = X at *
      have hdrop : l0.drop i = X :: l0.drop (i + 1) := by
        rw [List.drop_eq_getElem_cons hlt, ← hX]
        show _ = l0.getD _ _ :: _
        rw [Int.toNat_natCast, List.getD_eq_getElem?_getD, List.getElem?_eq_getElem hlt]
        rfl
      have hlast : ((i : Int) == wrap64 ((l0.length : Int) - 1)) = (l0.drop (i + 1)).isEmpty := by
        rw [Bool.eq_iff_iff]
        simp only [beq_iff_eq, List.isEmpty_iff, List.drop_eq_nil_iff]
        rw [show wrap64 ((l0.length : Int) - 1) = (l0.length : Int) - 1 by unfold wrap64; have := HN.out; omega]
        omega
      obtain ⟨kc, hkc⟩ := HC.out X hmem ((i : Int) == wrap64 ((l0.length : Int) - 1))
      have HO2 : Aside0 (spellOk canB l0 = (canB X ((i : Int) == wrap64 ((l0.length : Int) - 1)) && spellOk canB (l0.drop (i + 1)))) := ⟨by rw [HO.out, hdrop, spellOk, hlast]⟩
      generalize canB X ((i : Int) == wrap64 ((l0.length : Int) - 1)) = cb at *
      have HK := Aside0.mk hkc
      have HB0 : Aside0 (∀ o, Below w.heap.size w (wr.alloc o)) := ⟨fun o => below_alloc HB.out o⟩
      have HL2 : Aside0 (∀ w1, Below w.heap.size w w1 → LErr w1) := ⟨fun w1 h => HL.out.below h⟩
      have HLT := Aside0.mk hlt
      have hw64 : wrap64 ((i : Int) + 1) = ((i + 1 : Nat) : Int) := by unfold wrap64; have := HN.out; omega
      have HW := Aside0.mk hw64
      clear hkc hdrop hlast hmem HO hX hw64
      cases cb with
      | false =>
        have hR : (R1, R2) = ((⟨#[]⟩ : ByteArray), (1 : Int)) := by rw [← HR.out, HO2.out]; rfl
        obtain ⟨rfl, rfl⟩ := Prod.mk.inj hR
        clear hR HR
        go_upto_region 4 with (fail)
        go_wp2_with (go_at_call 52; (with_reducible refine (token_canBe.calls kc _ _ _ _ _ _ ⟨HL2.out _ (by repeat (first | (with_reducible first | exact HB.out | apply below_alloc | apply pw_below_drewN | apply below_drew1) | exact HB.out))⟩ HK.out).mono ?_); rintro e w2 ⟨rfl, hw2⟩)
        go_ret2
        exact ⟨rfl, below_step (HB0.out _) hw2⟩
      | true =>
        go_upto_region 4 with (fail)
        go_wp2_with (go_at_call 52; (with_reducible refine (token_canBe.calls kc _ _ _ _ _ _ ⟨HL2.out _ (by repeat (first | (with_reducible first | exact HB.out | apply below_alloc | apply pw_below_drewN | apply below_drew1) | exact HB.out))⟩ HK.out).mono ?_); rintro e w2 ⟨rfl, hw2⟩)
        rw [HW.out]
        exact ⟨⟨i + 1, rfl, by have := HLT.out; omega, ⟨by rw [HO2.out, Bool.true_and]⟩, ⟨below_step (HB0.out _) hw2⟩⟩, by have := HLT.out; simp; omega⟩
    · have hd : decide ((i : Int) < (l0.length : Int)) = false := decide_eq_false (by omega)
      have hi2 : ((i : Int) < (l0.length : Int)) = False := eq_false (by omega)
      have hok : spellOk canB l0 = true := by rw [HO.out, List.drop_eq_nil_of_le (by omega)]; rfl
      have HR2 : Aside0 (spellW quo l0 [] = (R1, R2)) := ⟨by rw [← HR.out, if_pos hok]⟩
      have HQ := Aside0.mk (HQ0.out hok)
      have HS := Aside0.mk (HS0.out hok)
      clear hok HO HR HC HL HQ0 HS0
      go_upto_region 9 with (fail)
      have hfresh := Lib.IsBuilderF.of (Lib.fresh_isBuilder 81 5 wr)
      have HB1 := Aside0.mk (below_alloc HB.out (.cells #[.pointer none, .slice none 0 0] 81))
      have hle : w.heap.size ≤ wr.heap.size := HB.out.size
      have hsz : wr.heap.size < (wr.alloc (.cells #[.pointer none, .slice none 0 0] 81)).heap.size := by simp
      generalize wr.alloc (.cells #[.pointer none, .slice none 0 0] 81) = w1 at *
      generalize wr.heap.size = b at *
      clear hd hi2 hlt hi HB
      go_loopw [27] (fun v w' => ∃ (j : Nat) (acc : List UInt8), v = .int .i64 j ∧ j ≤ l0.length ∧ acc.length ≤ 4096 ∧ Aside0 (spellW quo (l0.drop j) acc = (R1, R2)) ∧ Aside0 (Lib.IsBuilderF 81 5 b b (Lib.byteCells acc) w') ∧ b < w'.heap.size ∧ Aside0 (Below w.heap.size w w')) (fun v _ => l0.length - (match v with | .int _ i => i.toNat | _ => 0))
      case atStart => exact ⟨0, [], rfl, by omega, by simp, HR2, ⟨hfresh⟩, hsz, HB1⟩
      case round =>
        clear HR2 hfresh HB1 hsz
        obtain ⟨j, acc, rfl, hj, hacc, HW, HBd, hbs, HB⟩ := hrel
        by_cases hlt : j < l0.length
        · as_aux_lemma =>
          have hd : decide ((j : Int) < (l0.length : Int)) = true := decide_eq_true (by omega)
          have p1 : 0 ≤ (j : Int) := by omega
          have q1 : (j : Int) < (l0.length : Int) := by omega
          obtain ⟨ad1, e1, hx1_0, hx1_1, hx1_2⟩ := at_T44 (Kd.C_below HR0.out HB.out) (j : Int) p1 q1
          cases e1
          (try simp only [Go.IntWalk.toNatUp] at hx1_0)
          (try simp only [Go.IntWalk.toNatUp] at hx1_1)
          (try simp only [Go.IntWalk.toNatUp] at hx1_2)
          replace p1 := eq_true p1
          replace q1 := eq_true q1
          have hmem : rd_T44 l0 (j : Int) ∈ l0 := by
            show l0.getD _ _ ∈ l0
            rw [Int.toNat_natCast, List.getD_eq_getElem?_getD, List.getElem?_eq_getElem hlt]
            exact List.getElem_mem _
          generalize hX : rd_T44 l0 (j : Int) = X at *
          have hdrop : l0.drop j = X :: l0.drop (j + 1) := by
            rw [List.drop_eq_getElem_cons hlt, ← hX]
            show _ = l0.getD _ _ :: _
            rw [Int.toNat_natCast, List.getD_eq_getElem?_getD, List.getElem?_eq_getElem hlt]
            rfl
          have hw64 : wrap64 ((j : Int) + 1) = ((j + 1 : Nat) : Int) := by unfold wrap64; have := HN.out; omega
          have HW64 := Aside0.mk hw64
          have hspell := HW.out
          rw [hdrop, spellW] at hspell
          obtain ⟨kq, hkq⟩ := HQ.out X hmem
          have HK := Aside0.mk hkq
          have HSX := Aside0.mk (HS.out X hmem)
          have HLT := Aside0.mk hlt
          clear hkq hdrop hmem hX hw64 hlt HW
          by_cases c5 : X.f0 = 5
          · have c5b : (X.f0 == 5) = true := beq_iff_eq.mpr c5
            rw [if_pos c5] at hspell
            obtain ⟨rfl, rfl⟩ := Prod.mk.inj hspell
            clear hspell c5
            go_upto_region 20 with (fail)
            go_wp2_with (go_at_call 43; (with_reducible refine (Tryd.Builder_String_any_k b b acc _ (HBd.out.alloc _) (by simp; omega)).mono ?_); rintro e w2 ⟨rfl, hw2, hw3, hw4⟩)
            go_ret2
            exact ⟨rfl, (below_alloc HB.out _).trans (hw3.mono hle)⟩
          · have c5b : (X.f0 == 5) = false := beq_eq_false_iff_ne.mpr c5
            rw [if_neg c5] at hspell
            have HSP := Aside0.mk hspell
            clear hspell c5
            go_upto_region 12 with (fail)
            have hcell : (wr.alloc (.cells #[.int .i64 X.f0, .string X.f1, .int .i64 X.f2] 44)).heap[wr.heap.size]? = some (.cells #[.int .i64 X.f0, .string X.f1, .int .i64 X.f2] 44 (0, 0)) := heap_alloc_new wr _
            have HBd1 := Aside0.mk (HBd.out.alloc (.cells #[.int .i64 X.f0, .string X.f1, .int .i64 X.f2] 44))
            have HB1 := Aside0.mk (below_alloc HB.out (.cells #[.int .i64 X.f0, .string X.f1, .int .i64 X.f2] 44))
            have hsz1 : b < (wr.alloc (.cells #[.int .i64 X.f0, .string X.f1, .int .i64 X.f2] 44)).heap.size := by simp; omega
            generalize wr.alloc (.cells #[.int .i64 X.f0, .string X.f1, .int .i64 X.f2] 44) = w1 at *
            have hcb : wr.heap.size ≠ b := by omega
            generalize wr.heap.size = c at *
            have HCell := Aside0.mk hcell
            clear HBd HB hcell hbs hx1_0 hx1_1 hx1_2
            -- the blank
            have hblank : ∃ a1, a1 = (if 0 < acc.length then acc ++ [32] else acc) ∧ a1.length ≤ 4097 := ⟨_, rfl, by split <;> (try simp only [List.length_append, List.length_singleton]) <;> omega⟩
            obtain ⟨a1, ha1, hl1⟩ := hblank
            rw [← ha1] at HSP
            have HA1 := Aside0.mk ha1
            have hlen := Lib.byteCells_length acc
            clear ha1
            by_cases hpos : 0 < acc.length
            focus
              have hpb : decide ((acc.length : Int) > 0) = true := decide_eq_true (by omega)
              have ha2 := HA1.out
              rw [if_pos hpos] at ha2
              subst ha2
              go_upto_region 14 with (first | (go_at_call 42; (with_reducible refine (Tryd.Builder_Len_f b b _ _ HBd1.out).mono ?_); rintro e w2 ⟨rfl, rfl⟩; rw [hlen]) | (go_at_call 39; (with_reducible refine (Tryd.Builder_WriteByte_k b b _ 32 _ HBd1.out (by omega) (by omega)).mono ?_); rintro e w3 ⟨rfl, hw2, hw3, hw4⟩))
              replace HBd1 : Aside0 (Lib.IsBuilderF 81 5 b b (Lib.byteCells (acc ++ [32])) w3) := ⟨by rw [show Lib.byteCells (acc ++ [32]) = Lib.byteCells acc ++ [.int .u8 32] by simp [Lib.byteCells]]; exact Or.inr hw2⟩
              replace hsz1 : b < w3.heap.size := by have := hw3.size; omega
              replace HCell := Aside0.mk (kept_cells hw4 HCell.out hcb)
              replace HB1 := Aside0.mk (HB1.out.trans (hw3.mono hle))
              clear hpos hpb hlen hw2 hw3 hw4
              generalize acc ++ [32] = a1 at *
            rotate_left
            focus
              have hpb : decide ((acc.length : Int) > 0) = false := decide_eq_false (by omega)
              have ha2 := HA1.out
              rw [if_neg hpos] at ha2
              subst ha2
              go_upto_region 14 with (go_at_call 42; (with_reducible refine (Tryd.Builder_Len_f b b _ _ HBd1.out).mono ?_); rintro e w3 ⟨rfl, rfl⟩; rw [hlen])
              clear hpos hpb hlen
              generalize a1 = a1 at *
            all_goals
              clear HA1
              have hlen := Lib.byteCells_length a1
              have hx0 : w3.cell? ⟨c, 0, none⟩ = some (.int .i64 X.f0) := by simp [World.cell?, HCell.out]
              have hx1 : w3.cell? ⟨c, 1, none⟩ = some (.string X.f1) := by simp [World.cell?, HCell.out]
              by_cases c3 : X.f0 = 3
              focus
                have c3b : (X.f0 == 3) = true := beq_iff_eq.mpr c3
                have HSP2 := HSP.out
                rw [if_pos c3] at HSP2
                clear HSP c3
                go_upto_region 17 with (first | (go_at_call 53; (with_reducible refine (token_quoted.calls kq _ _ _ HK.out).mono ?_); rintro e w4 ⟨rfl, hq⟩; have hB4 := builder_belowS HBd1.out hq) | (go_at_call 40; (with_reducible refine (Tryd.Builder_WriteString_k b b _ _ _ hB4 (by have := HSX.out; omega) (by have := hq.size; omega)).mono ?_); rintro e w5 ⟨rfl, hw2, hw3, hw4⟩))
                replace HBd1 : Aside0 (Lib.IsBuilderF 81 5 b b (Lib.byteCells (a1 ++ (quo X.f1).data.toList)) w5) := ⟨by rw [show Lib.byteCells (a1 ++ (quo X.f1).data.toList) = Lib.byteCells a1 ++ Lib.strCells (quo X.f1) by simp [Lib.byteCells, Lib.strCells]]; exact Or.inr hw2⟩
                replace hsz1 : b < w5.heap.size := by have := hw3.size; have := hq.size; omega
                replace HB1 : Aside0 (Below w.heap.size w w5) := ⟨(below_step HB1.out hq).trans (hw3.mono hle)⟩
                clear hlen hw2 hw3 hw4 hq hB4 c3b hx0 hx1 HCell
                generalize a1 ++ (quo X.f1).data.toList = a2 at *
              rotate_left
              focus
                have c3b : (X.f0 == 3) = false := beq_eq_false_iff_ne.mpr c3
                have HSP2 := HSP.out
                rw [if_neg c3] at HSP2
                clear HSP c3
                go_upto_region 17 with (go_at_call 40; (with_reducible refine (Tryd.Builder_WriteString_k b b _ _ _ HBd1.out (by have := HSX.out; omega) (by omega)).mono ?_); rintro e w5 ⟨rfl, hw2, hw3, hw4⟩)
                replace HBd1 : Aside0 (Lib.IsBuilderF 81 5 b b (Lib.byteCells (a1 ++ X.f1.data.toList)) w5) := ⟨by rw [show Lib.byteCells (a1 ++ X.f1.data.toList) = Lib.byteCells a1 ++ Lib.strCells X.f1 by simp [Lib.byteCells, Lib.strCells]]; exact Or.inr hw2⟩
                replace hsz1 : b < w5.heap.size := by have := hw3.size; omega
                replace HB1 : Aside0 (Below w.heap.size w w5) := ⟨HB1.out.trans (hw3.mono hle)⟩
                clear hlen hw2 hw3 hw4 c3b hx0 hx1 HCell
                generalize a1 ++ X.f1.data.toList = a2 at *
              all_goals
                have hlen := Lib.byteCells_length a2
                by_cases hbig : 4096 < a2.length
                · have hbb : decide ((a2.length : Int) > 4096) = true := decide_eq_true (by omega)
                  rw [if_pos hbig] at HSP2
                  obtain ⟨rfl, rfl⟩ := Prod.mk.inj HSP2
                  clear HSP2 hbig
                  go_wp2_with (go_at_call 42; (with_reducible refine (Tryd.Builder_Len_f b b _ _ HBd1.out).mono ?_); rintro e w6 ⟨rfl, rfl⟩; rw [hlen])
                  go_ret2
                  exact ⟨rfl, HB1.out⟩
                · have hbb : decide ((a2.length : Int) > 4096) = false := decide_eq_false (by omega)
                  rw [if_neg hbig] at HSP2
                  have HSP3 := Aside0.mk HSP2
                  have HBG := Aside0.mk hbig
                  clear HSP2 hbig
                  go_wp2_with (go_at_call 42; (with_reducible refine (Tryd.Builder_Len_f b b _ _ HBd1.out).mono ?_); rintro e w6 ⟨rfl, rfl⟩; rw [hlen])
                  rw [HW64.out]
                  exact ⟨⟨j + 1, a2, rfl, by have := HLT.out; omega, by have := HBG.out; omega, HSP3, HBd1, hsz1, HB1⟩, by have := HLT.out; simp; omega⟩
        · as_aux_lemma =>
          have hd : decide ((j : Int) < (l0.length : Int)) = false := decide_eq_false (by omega)
          have hspell := HW.out
          rw [List.drop_eq_nil_of_le (by omega), spellW] at hspell
          obtain ⟨rfl, rfl⟩ := Prod.mk.inj hspell
          clear hspell
          go_upto_region 20 with (fail)
          go_wp2_with (go_at_call 43; (with_reducible refine (Tryd.Builder_String_any_k b b acc _ HBd.out (by omega)).mono ?_); rintro e w2 ⟨rfl, hw2, hw3, hw4⟩)
          go_ret2
          exact ⟨rfl, HB.out.trans (hw3.mono hle)⟩
end Go.Proofs.YthmcapdakplhdaaDoor.Pr
end

/-! ## text PuBase -/
section
namespace Go.Proofs.YthmcapdakplhdaaDoor.Pu
open Go.RowKit Go.Proofs.YthmcapdakplhdaaDoorW.PrintWords Go.Proofs.YthmcapdakplhdaaDoorW.PrintLast Go.Proofs.YthmcapdakplhdaaDoorW.PrintMore
set_option linter.unusedVariables false
set_option linter.unusedSimpArgs false

/-- Plain facts on strings as lists of bytes, for the pure statements: no program, no memory. -/
def B (l : List UInt8) : ByteArray := ⟨l.toArray⟩
@[simp] theorem B_data (l : List UInt8) : (B l).data.toList = l := rfl
@[simp] theorem B_size (l : List UInt8) : (B l).size = l.length := by simp [B, ByteArray.size]
theorem B_of (s : ByteArray) : B s.data.toList = s := by cases s; rfl
theorem data_len (s : ByteArray) : s.data.toList.length = s.size := by simp
theorem tl_data (s : ByteArray) : s.toList = s.data.toList := by
  have hl := data_len s
  have h : ∀ (m i : Nat) (r : List UInt8), s.size - i = m → ByteArray.toList.loop s i r = r.reverse ++ s.data.toList.drop i := by
    intro m
    induction m with
    | zero =>
      intro i r hm
      rw [ByteArray.toList.loop, if_neg (by omega), List.drop_eq_nil_of_le (by omega), List.append_nil]
    | succ m ih =>
      intro i r hm
      have hi : i < s.size := by omega
      rw [ByteArray.toList.loop, if_pos hi, ih (i + 1) _ (by omega)]
      have e : s.get! i = s.data.toList[i]'(by omega) := by
        unfold ByteArray.get!
        simp only [Array.getElem_toList]
        exact getElem!_pos s.data i hi
      rw [e, List.reverse_cons, List.append_assoc, List.singleton_append, ← List.drop_eq_getElem_cons]
  have := h s.size 0 [] (by omega)
  simpa [ByteArray.toList] using this
@[simp] theorem B_toList (l : List UInt8) : (B l).toList = l := by rw [tl_data]; rfl
theorem B_extract (l : List UInt8) (i j : Nat) : (B l).extract i j = B ((l.take j).drop i) := by
  have : ((B l).extract i j).data.toList = (l.take j).drop i := by simp [B, ByteArray.data_extract, List.drop_take]
  rw [← B_of ((B l).extract i j), this]
theorem B_ext_mid (pre rest : List UInt8) (n : Nat) : (B (pre ++ rest)).extract pre.length (pre.length + n) = B (rest.take n) := by
  rw [B_extract, List.take_append, List.drop_append]
  have e : pre.take (pre.length + n) = pre := List.take_of_length_le (by omega)
  rw [e, List.drop_length, List.nil_append]
  congr 1
  rw [show pre.length + n - pre.length = n by omega, show pre.length - pre.length = 0 by omega, List.drop_zero]
theorem B_ext_rest (pre rest : List UInt8) : (B (pre ++ rest)).extract pre.length (B (pre ++ rest)).size = B rest := by
  have := B_ext_mid pre rest rest.length
  rw [List.take_length] at this
  rw [← this]
  congr 1
  simp
theorem bt_mid (pre : List UInt8) (c : UInt8) (t : List UInt8) : bt (B (pre ++ c :: t)) (pre.length : Int) = (c.toNat : Int) := by
  unfold bt
  have h : (pre.length : Int).toNat < (B (pre ++ c :: t)).size := by simp
  rw [dif_pos h]
  have e : (B (pre ++ c :: t))[((pre.length : Int)).toNat]'h = (pre ++ c :: t)[pre.length]'(by simp) := by
    simp only [Int.toNat_natCast]
    rfl
  rw [e]
  simp
theorem bt_head (c : UInt8) (t : List UInt8) : bt (B (c :: t)) 0 = (c.toNat : Int) := bt_mid [] c t
theorem w64 {n : Int} (h0 : -9223372036854775808 ≤ n) (h1 : n ≤ 9223372036854775807) : wrap64 n = n := by unfold wrap64; omega

theorem strOfNums_nat (xs : List Int) : strOfNums xs = B (xs.map fun n => UInt8.ofNat n.toNat) := rfl
end Go.Proofs.YthmcapdakplhdaaDoor.Pu
end

/-! ## text PuTok1 -/
section
namespace Go.Proofs.YthmcapdakplhdaaDoor.Pu
open Go.RowKit Go.Proofs.YthmcapdakplhdaaDoor.Pr Go.Proofs.YthmcapdakplhdaaDoorW.PrintWords Go.Proofs.YthmcapdakplhdaaDoorW.PrintLast Go.Proofs.YthmcapdakplhdaaDoorW.PrintMore
set_option linter.unusedVariables false
set_option linter.unusedSimpArgs false

theorem hasPrefix (l p : List UInt8) : strings_HasPrefix.f (B l) (B p) = some (l.take p.length == p) := by
  unfold strings_HasPrefix.f stringslite_HasPrefix.f
  simp only [B_size, B_toList]
  by_cases h : (l.length : Int) ≥ (p.length : Int)
  · rw [if_pos h, if_pos (by omega), if_pos (by omega)]
    simp [B_extract]
  · rw [if_neg h]
    simp only [Option.bind_some, Option.some.injEq]
    symm
    rw [beq_eq_false_iff_ne]
    intro e
    have := congrArg List.length e
    simp at this
    omega

/-- How long the sign is with which a text begins. -/
def signL : List UInt8 → Nat
  | [] => 0
  | c :: t =>
    if c.toNat = 33 ∨ c.toNat = 60 ∨ c.toNat = 62 then (if t.take 1 == [61] then 2 else 1)
    else if c.toNat = 40 ∨ c.toNat = 41 ∨ c.toNat = 91 ∨ c.toNat = 93 ∨ c.toNat = 123 ∨ c.toNat = 125 ∨ c.toNat = 44 ∨ c.toNat = 43 ∨ c.toNat = 45 ∨ c.toNat = 42 ∨ c.toNat = 61 then 1
    else if c.toNat = 46 then (if t.take 1 == [46] then 2 else 1)
    else 0

theorem signAt_ev (l : List UInt8) : Ev (fun k => token_signAt.f k (B l)) (signL l) := by
  refine Ev.of (fun k => token_signAt.mono _ k) (k := 3) ?_
  unfold token_signAt.f
  cases l with
  | nil => simp [signL]
  | cons c t =>
    rw [if_neg (by simp), if_pos (by simp)]
    simp only [bt_head]
    have e1 : (B (c :: t)).extract 1 (B (c :: t)).size = B t := B_ext_rest [c] t
    have p61 := hasPrefix t [61]
    have p46 := hasPrefix t [46]
    have q61 : strings_HasPrefix.f (B t) (⟨#[61]⟩ : ByteArray) = some (t.take 1 == [61]) := p61
    have q46 : strings_HasPrefix.f (B t) (⟨#[46]⟩ : ByteArray) = some (t.take 1 == [46]) := p46
    have hs : (1 : Int) ≤ ((B (c :: t)).size : Int) := by simp; omega
    unfold signL
    simp only [token_signAt.j0, token_signAt.j1, e1, q61, q46, Option.bind_some, if_pos hs]
    generalize (c.toNat : Nat) = n
    generalize (t.take 1 == [61]) = b1
    generalize (t.take 1 == [46]) = b2
    have w1 : wrap64 (0 + 1) = 1 := by unfold wrap64; omega
    have w2 : wrap64 (1 + 1) = 2 := by unfold wrap64; omega
    simp only [w1, w2]
    have e33 : ((n : Int) = 33) = (n = 33) := propext ⟨fun h => by omega, fun h => by omega⟩
    have f33 : ((n : Int) == 33) = decide (n = 33) := by rw [Bool.eq_iff_iff]; simp only [beq_iff_eq, decide_eq_true_eq, e33]
    have e60 : ((n : Int) = 60) = (n = 60) := propext ⟨fun h => by omega, fun h => by omega⟩
    have f60 : ((n : Int) == 60) = decide (n = 60) := by rw [Bool.eq_iff_iff]; simp only [beq_iff_eq, decide_eq_true_eq, e60]
    have e62 : ((n : Int) = 62) = (n = 62) := propext ⟨fun h => by omega, fun h => by omega⟩
    have f62 : ((n : Int) == 62) = decide (n = 62) := by rw [Bool.eq_iff_iff]; simp only [beq_iff_eq, decide_eq_true_eq, e62]
    have e40 : ((n : Int) = 40) = (n = 40) := propext ⟨fun h => by omega, fun h => by omega⟩
    have f40 : ((n : Int) == 40) = decide (n = 40) := by rw [Bool.eq_iff_iff]; simp only [beq_iff_eq, decide_eq_true_eq, e40]
    have e41 : ((n : Int) = 41) = (n = 41) := propext ⟨fun h => by omega, fun h => by omega⟩
    have f41 : ((n : Int) == 41) = decide (n = 41) := by rw [Bool.eq_iff_iff]; simp only [beq_iff_eq, decide_eq_true_eq, e41]
    have e91 : ((n : Int) = 91) = (n = 91) := propext ⟨fun h => by omega, fun h => by omega⟩
    have f91 : ((n : Int) == 91) = decide (n = 91) := by rw [Bool.eq_iff_iff]; simp only [beq_iff_eq, decide_eq_true_eq, e91]
    have e93 : ((n : Int) = 93) = (n = 93) := propext ⟨fun h => by omega, fun h => by omega⟩
    have f93 : ((n : Int) == 93) = decide (n = 93) := by rw [Bool.eq_iff_iff]; simp only [beq_iff_eq, decide_eq_true_eq, e93]
    have e123 : ((n : Int) = 123) = (n = 123) := propext ⟨fun h => by omega, fun h => by omega⟩
    have f123 : ((n : Int) == 123) = decide (n = 123) := by rw [Bool.eq_iff_iff]; simp only [beq_iff_eq, decide_eq_true_eq, e123]
    have e125 : ((n : Int) = 125) = (n = 125) := propext ⟨fun h => by omega, fun h => by omega⟩
    have f125 : ((n : Int) == 125) = decide (n = 125) := by rw [Bool.eq_iff_iff]; simp only [beq_iff_eq, decide_eq_true_eq, e125]
    have e44 : ((n : Int) = 44) = (n = 44) := propext ⟨fun h => by omega, fun h => by omega⟩
    have f44 : ((n : Int) == 44) = decide (n = 44) := by rw [Bool.eq_iff_iff]; simp only [beq_iff_eq, decide_eq_true_eq, e44]
    have e43 : ((n : Int) = 43) = (n = 43) := propext ⟨fun h => by omega, fun h => by omega⟩
    have f43 : ((n : Int) == 43) = decide (n = 43) := by rw [Bool.eq_iff_iff]; simp only [beq_iff_eq, decide_eq_true_eq, e43]
    have e45 : ((n : Int) = 45) = (n = 45) := propext ⟨fun h => by omega, fun h => by omega⟩
    have f45 : ((n : Int) == 45) = decide (n = 45) := by rw [Bool.eq_iff_iff]; simp only [beq_iff_eq, decide_eq_true_eq, e45]
    have e42 : ((n : Int) = 42) = (n = 42) := propext ⟨fun h => by omega, fun h => by omega⟩
    have f42 : ((n : Int) == 42) = decide (n = 42) := by rw [Bool.eq_iff_iff]; simp only [beq_iff_eq, decide_eq_true_eq, e42]
    have e61 : ((n : Int) = 61) = (n = 61) := propext ⟨fun h => by omega, fun h => by omega⟩
    have f61 : ((n : Int) == 61) = decide (n = 61) := by rw [Bool.eq_iff_iff]; simp only [beq_iff_eq, decide_eq_true_eq, e61]
    have e46 : ((n : Int) = 46) = (n = 46) := propext ⟨fun h => by omega, fun h => by omega⟩
    have f46 : ((n : Int) == 46) = decide (n = 46) := by rw [Bool.eq_iff_iff]; simp only [beq_iff_eq, decide_eq_true_eq, e46]
    simp only [e33, f33, e60, f60, e62, f62, e40, f40, e41, f41, e91, f91, e93, f93, e123, f123, e125, f125, e44, f44, e43, f43, e45, f45, e42, f42, e61, f61, e46, f46]
    by_cases h : n ∈ [33, 60, 62, 40, 41, 91, 93, 123, 125, 44, 43, 45, 42, 61, 46]
    · simp only [List.mem_cons, List.mem_nil_iff, or_false] at h
      rcases h with rfl | rfl | rfl | rfl | rfl | rfl | rfl | rfl | rfl | rfl | rfl | rfl | rfl | rfl | rfl <;> cases b1 <;> cases b2 <;> rfl
    · simp only [List.mem_cons, List.mem_nil_iff, or_false, not_or] at h
      obtain ⟨h33, h60, h62, h40, h41, h91, h93, h123, h125, h44, h43, h45, h42, h61, h46⟩ := h
      simp [h33, h60, h62, h40, h41, h91, h93, h123, h125, h44, h43, h45, h42, h61, h46]

/-- A blank, a letter, a digit. -/
def blankN (n : Nat) : Bool := n == 32 || n == 9 || n == 10 || n == 13
def letN (n : Nat) : Bool := (decide (97 ≤ n) && decide (n ≤ 122)) || (decide (65 ≤ n) && decide (n ≤ 90)) || n == 95
def digN (n : Nat) : Bool := decide (48 ≤ n) && decide (n ≤ 57)
def signN (n : Nat) : Bool := n == 33 || n == 60 || n == 62 || n == 40 || n == 41 || n == 91 || n == 93 || n == 123 || n == 125 || n == 44 || n == 43 || n == 45 || n == 42 || n == 61 || n == 46
def begN (n : Nat) : Int := if blankN n then 1 else if letN n then 2 else if digN n then 3 else if n = 34 then 4 else if signN n then 5 else 0
def goesN (n : Nat) : Bool := letN n || digN n
/-- What a byte begins. -/
def begL (c : UInt8) : Int := begN c.toNat
theorem signL_one (c : UInt8) : signL [c] = if signN c.toNat then 1 else 0 := by
  have hl := c.toNat_lt
  simp only [signL, List.take_nil]
  generalize c.toNat = n at hl ⊢
  revert hl
  revert n
  decide +kernel

theorem encode_all : ∀ n : Nat, n < 256 → Utf8.encode (n : Int) = if n < 128 then B [UInt8.ofNat n] else B [UInt8.ofNat (192 + n / 64), UInt8.ofNat (128 + n % 64)] := by
  intro n hn
  have hv : Utf8.valid (n : Int) = true := by
    revert n
    decide +kernel
  unfold Utf8.encode
  simp only [hv, if_true, Int.toNat_natCast]
  by_cases h : n < 128
  · rw [if_pos h, if_pos h]; rfl
  · rw [if_neg h, if_neg h, if_pos (by omega)]; rfl
theorem signAt_byte (c : UInt8) : Ev (fun k => token_signAt.f k (Utf8.encode (c.toNat : Int))) (signL [c] : Nat) := by
  rw [encode_all c.toNat c.toNat_lt]
  by_cases h : c.toNat < 128
  · rw [if_pos h, UInt8.ofNat_toNat]
    exact signAt_ev [c]
  · rw [if_neg h]
    have := signAt_ev [UInt8.ofNat (192 + c.toNat / 64), UInt8.ofNat (128 + c.toNat % 64)]
    have e1 : signL [UInt8.ofNat (192 + c.toNat / 64), UInt8.ofNat (128 + c.toNat % 64)] = 0 := by
      have hd : (UInt8.ofNat (192 + c.toNat / 64)).toNat = 192 + c.toNat / 64 := by rw [UInt8.toNat_ofNat']; have := c.toNat_lt; omega
      simp only [signL, hd]
      have := c.toNat_lt
      rw [if_neg (by omega), if_neg (by omega), if_neg (by omega)]
    have e2 : signL [c] = 0 := by
      simp only [signL]
      rw [if_neg (by omega), if_neg (by omega), if_neg (by omega)]
    rw [e2]
    rw [e1] at this
    exact this
theorem begins_ev (c : UInt8) : Ev (fun k => token_begins.f k (c.toNat : Int)) (begL c) := by
  obtain ⟨K, hK⟩ := signAt_byte c
  refine Ev.of (fun k => token_begins.mono _ k) (k := K + 3) ?_
  have h0 := hK K (Nat.le_refl _)
  unfold token_begins.f
  simp only [token_begins.j0, token_begins.j1, token_begins.j2, h0, Option.bind_some]
  have hl := c.toNat_lt
  rw [signL_one] at h0
  unfold begL
  clear h0 hK
  rw [signL_one]
  generalize c.toNat = n at hl ⊢
  revert hl
  revert n
  decide +kernel
/-- May the byte follow in a word? -/
def goesB (c : UInt8) : Bool := goesN c.toNat
theorem goesOn_ev (c : UInt8) : Ev (fun k => token_goesOn.f k (c.toNat : Int)) (goesB c) := by
  refine Ev.bind (begins_ev c) ?_
  have : (if begL c = 2 then some true else some (begL c == 3)) = some (goesB c) := by
    unfold begL goesB
    have hl := c.toNat_lt
    generalize c.toNat = n at hl ⊢
    revert hl
    revert n
    decide +kernel
  rw [this]
  exact Ev.now _
/-- How many bytes at the front go on. -/
theorem run_ev (v : Value) (l : List UInt8) (hl : l.length ≤ 140737488355328) : Ev (fun k => token_run.f k (B l) v) ((l.takeWhile goesB).length : Int) := by
  have h : ∀ (rest pre : List UInt8), pre ++ rest = l → Ev (fun k => token_run.l0 k (B l) (pre.length : Int)) ((pre.length + (rest.takeWhile goesB).length : Nat) : Int) := by
    intro rest
    induction rest with
    | nil =>
      intro pre hp
      refine Ev.of (fun k => (token_run.mono_l k) _ _) (k := 1) ?_
      simp only [token_run.l0]
      rw [if_neg (by rw [B_size, ← hp]; simp)]
      simp
    | cons c t ih =>
      intro pre hp
      refine Ev.step (f := fun k => (token_goesOn.f k (c.toNat : Int)).bind fun t194 => if t194 = true then token_run.l0 k (B l) (wrap64 ((pre.length : Int) + 1)) else some (pre.length : Int)) ?_ ?_
      · intro k
        simp only [token_run.l0]
        have hlen : pre.length < l.length := by rw [← hp]; simp
        rw [if_pos (by rw [B_size]; omega), if_pos (by omega)]
        rw [← hp, bt_mid]
      · refine Ev.bind (goesOn_ev c) ?_
        cases hg : goesB c with
        | false => simp only [List.takeWhile_cons, hg]; exact Ev.now _
        | true =>
          have := ih (pre ++ [c]) (by rw [← hp]; simp)
          have hlen : pre.length < l.length := by rw [← hp]; simp
          rw [w64 (by omega) (by omega)]
          simp only [List.takeWhile_cons, hg, if_true, List.length_cons]
          have e : ((pre ++ [c]).length : Int) = (pre.length : Int) + 1 := by simp
          rw [e] at this
          have e2 : ((pre ++ [c]).length + (List.takeWhile goesB t).length : Nat) = pre.length + ((List.takeWhile goesB t).length + 1) := by simp; omega
          rw [e2] at this
          exact this
  have := h l [] rfl
  simp only [List.length_nil, Nat.zero_add] at this
  exact this
end Go.Proofs.YthmcapdakplhdaaDoor.Pu
end

/-! ## text PuTok2 -/
section
namespace Go.Proofs.YthmcapdakplhdaaDoor.Pu
open Go.RowKit Go.Proofs.YthmcapdakplhdaaDoor.Pr Go.Proofs.YthmcapdakplhdaaDoorW.PrintWords Go.Proofs.YthmcapdakplhdaaDoorW.PrintLast Go.Proofs.YthmcapdakplhdaaDoorW.PrintMore
set_option linter.unusedVariables false
set_option linter.unusedSimpArgs false

/-- A hexadecimal digit's worth, or -1. -/
def hexN (n : Nat) : Int := if 48 ≤ n ∧ n ≤ 57 then (n : Int) - 48 else if 97 ≤ n ∧ n ≤ 102 then (n : Int) - 87 else if 65 ≤ n ∧ n ≤ 70 then (n : Int) - 55 else -1
theorem hexDigit_ev (c : UInt8) : Ev (fun k => token_hexDigit.f k (c.toNat : Int)) (hexN c.toNat) := by
  refine Ev.of (fun k => token_hexDigit.mono _ k) (k := 3) ?_
  have hl := c.toNat_lt
  generalize c.toNat = n at hl ⊢
  revert hl
  revert n
  decide +kernel
theorem hexN_le : ∀ n : Nat, n < 256 → hexN n ≤ 15 ∧ -1 ≤ hexN n := by decide +kernel

/-- The two digits of an escape: the byte, the length, the error. -/
def hexL : List UInt8 → Int × Int × Int
  | [] => (0, 0, 52)
  | [a] => if hexN a.toNat < 0 then (0, 0, 51) else (0, 0, 52)
  | a :: b :: _ => if hexN a.toNat < 0 then (0, 0, 51) else if hexN b.toNat < 0 then (0, 0, 51) else ((hexN a.toNat * 16 + hexN b.toNat) % 256, 4, 0)
theorem hex_ev (l : List UInt8) (hlen : l.length ≤ 140737488355328) : Ev (fun k => token_hex.f k (B l)) (hexL l) := by
  have s0 : Ev (fun k => token_hex.l0 k (B l) 0 0) (hexL l) := by
    refine Ev.step (f := fun k => if (0 : Int) ≥ ((B l).size : Int) then some (0, 0, 52) else (token_hexDigit.f k (bt (B l) 0)).bind fun t => if t < 0 then some (0, 0, 51) else token_hex.l0 k (B l) (wrap64 (wrap64 (0 * 16) + t)) (wrap64 (0 + 1))) ?_ ?_
    · intro k
      simp only [token_hex.l0]
      rw [if_pos (by omega)]
      by_cases h : (0 : Int) ≥ ((B l).size : Int)
      · rw [if_pos h, if_pos h]
      · rw [if_neg h, if_neg h, if_pos (by omega), if_pos (by omega)]
    · cases l with
      | nil => exact Ev.congr (f := fun _ => some (0, 0, 52)) (fun k => by rw [if_pos (by simp)]) (Ev.now _)
      | cons a t =>
        refine Ev.congr (f := fun k => (token_hexDigit.f k (a.toNat : Int)).bind fun t' => if t' < 0 then some (0, 0, 51) else token_hex.l0 k (B (a :: t)) (wrap64 (wrap64 (0 * 16) + t')) (wrap64 (0 + 1))) (fun k => by rw [if_neg (by simp), bt_head]) ?_
        refine Ev.bind (hexDigit_ev a) ?_
        have ha := hexN_le a.toNat a.toNat_lt
        by_cases hn : hexN a.toNat < 0
        · simp only [if_pos hn]
          have : hexL (a :: t) = (0, 0, 51) := by cases t <;> simp only [hexL, if_pos hn]
          rw [this]
          exact Ev.now _
        · simp only [if_neg hn]
          rw [w64 (n := 0 * 16) (by omega) (by omega), w64 (by omega) (by omega), w64 (by omega) (by omega)]
          refine Ev.step (f := fun k => if (1 : Int) ≥ ((B (a :: t)).size : Int) then some (0, 0, 52) else (token_hexDigit.f k (bt (B (a :: t)) 1)).bind fun t' => if t' < 0 then some (0, 0, 51) else token_hex.l0 k (B (a :: t)) (wrap64 (wrap64 ((0 * 16 + hexN a.toNat) * 16) + t')) (wrap64 (1 + 1))) ?_ ?_
          · intro k
            simp only [token_hex.l0]
            rw [if_pos (by omega)]
            simp only [Int.zero_add]
            by_cases h : (1 : Int) ≥ ((B (a :: t)).size : Int)
            · rw [if_pos h, if_pos h]
            · rw [if_neg h, if_neg h, if_pos (by omega), if_pos (by omega)]
          · cases t with
            | nil =>
              refine Ev.congr (f := fun _ => some (0, 0, 52)) (fun k => by rw [if_pos (by simp)]) ?_
              simp only [hexL, if_neg hn]
              exact Ev.now _
            | cons b t =>
              refine Ev.congr (f := fun k => (token_hexDigit.f k (b.toNat : Int)).bind fun t' => if t' < 0 then some (0, 0, 51) else token_hex.l0 k (B (a :: b :: t)) (wrap64 (wrap64 ((0 * 16 + hexN a.toNat) * 16) + t')) (wrap64 (1 + 1))) (fun k => by rw [if_neg (by simp; omega), show bt (B (a :: b :: t)) 1 = (b.toNat : Int) from bt_mid [a] b t]) ?_
              refine Ev.bind (hexDigit_ev b) ?_
              have hb := hexN_le b.toNat b.toNat_lt
              simp only [hexL, if_neg hn]
              by_cases hn2 : hexN b.toNat < 0
              · simp only [if_pos hn2]
                exact Ev.now _
              · simp only [if_neg hn2]
                rw [w64 (n := (0 * 16 + hexN a.toNat) * 16) (by omega) (by omega), w64 (by omega) (by omega), w64 (by omega) (by omega)]
                refine Ev.step (f := fun k => some ((hexN a.toNat * 16 + hexN b.toNat) % 256, 4, 0)) ?_ (Ev.now _)
                intro k
                simp only [token_hex.l0]
                rw [if_neg (by omega)]
                simp
  exact s0

/-- What stands behind a backslash. -/
def escL : List UInt8 → Int × Int × Int
  | [] => (0, 0, 52)
  | c :: t => if c.toNat = 34 ∨ c.toNat = 92 then (c.toNat, 2, 0) else if c.toNat = 110 then (10, 2, 0) else if c.toNat = 116 then (9, 2, 0) else if c.toNat = 120 then hexL t else (0, 0, 51)
theorem escape_ev (l : List UInt8) (hlen : l.length ≤ 140737488355328) : Ev (fun k => token_escape.f k (B l)) (escL l) := by
  cases l with
  | nil => exact Ev.of (fun k => token_escape.mono _ k) (k := 1) (by unfold token_escape.f; rw [if_pos (by simp)]; rfl)
  | cons c t =>
    simp only [List.length_cons] at hlen
    obtain ⟨K, hK⟩ := hex_ev t (by omega)
    refine Ev.of (fun k => token_escape.mono _ k) (k := K + 1) ?_
    have e1 : (B (c :: t)).extract 1 (B (c :: t)).size = B t := B_ext_rest [c] t
    have hs : (1 : Int) ≤ ((B (c :: t)).size : Int) := by simp; omega
    unfold token_escape.f
    simp only [token_escape.j0, e1, hK K (Nat.le_refl _), Option.bind_some, if_pos hs]
    rw [if_neg (by simp), if_pos (by simp)]
    have hp : (0 : Int) < ((B (c :: t)).size : Int) := by simp
    simp only [bt_head, if_pos hp, escL]
    have hl := c.toNat_lt
    generalize c.toNat = n at hl ⊢
    have e34 : ((n : Int) = 34) = (n = 34) := propext ⟨fun h => by omega, fun h => by omega⟩
    have e110 : ((n : Int) = 110) = (n = 110) := propext ⟨fun h => by omega, fun h => by omega⟩
    have e116 : ((n : Int) = 116) = (n = 116) := propext ⟨fun h => by omega, fun h => by omega⟩
    have e120 : ((n : Int) = 120) = (n = 120) := propext ⟨fun h => by omega, fun h => by omega⟩
    have f34 : ((n : Int) == 34) = decide (n = 34) := by rw [Bool.eq_iff_iff]; simp only [beq_iff_eq, decide_eq_true_eq, e34]
    have f92 : ((n : Int) == 92) = decide (n = 92) := by rw [Bool.eq_iff_iff]; simp only [beq_iff_eq, decide_eq_true_eq]; omega
    simp only [e34, e110, e116, e120, f34, f92]
    by_cases h34 : n = 34
    · simp [h34]
    · by_cases h92 : n = 92
      · simp [h92]
      · simp only [h34, h92, if_false, decide_false, or_self]
        by_cases h110 : n = 110
        · simp [h110]
        · by_cases h116 : n = 116
          · simp [h116]
          · by_cases h120 : n = 120
            · simp [h120]
            · simp [h110, h116, h120]
end Go.Proofs.YthmcapdakplhdaaDoor.Pu
end

/-! ## text PuTok3 -/
section
namespace Go.Proofs.YthmcapdakplhdaaDoor.Pu
open Go.RowKit Go.Proofs.YthmcapdakplhdaaDoor.Pr Go.Proofs.YthmcapdakplhdaaDoorW.PrintWords Go.Proofs.YthmcapdakplhdaaDoorW.PrintLast Go.Proofs.YthmcapdakplhdaaDoorW.PrintMore
set_option linter.unusedVariables false
set_option linter.unusedSimpArgs false

theorem hex_len (l : List UInt8) (h : (hexL l).2.2 = 0) : (hexL l).2.1 = 4 ∧ 2 ≤ l.length := by
  match l with
  | [] => simp [hexL] at h
  | [a] =>
    exfalso
    by_cases hh : hexN a.toNat < 0 <;> simp [hexL, hh] at h
  | a :: b :: t =>
    simp only [hexL] at h ⊢
    split at h
    · simp at h
    · split at h
      · simp at h
      · rename_i h1 h2
        rw [if_neg h1, if_neg h2]
        exact ⟨rfl, by simp⟩
theorem esc_len (l : List UInt8) (h : (escL l).2.2 = 0) : ∃ n : Nat, (escL l).2.1 = n ∧ 2 ≤ n ∧ n ≤ l.length + 1 := by
  match l with
  | [] => simp [escL] at h
  | c :: t =>
    simp only [escL] at h ⊢
    repeat' split at h
    · rename_i h1; rw [if_pos h1]; exact ⟨2, rfl, by omega, by simp⟩
    · rename_i h1 h2; rw [if_neg h1, if_pos h2]; exact ⟨2, rfl, by omega, by simp⟩
    · rename_i h1 h2 h3; rw [if_neg h1, if_neg h2, if_pos h3]; exact ⟨2, rfl, by omega, by simp⟩
    · rename_i h1 h2 h3 h4
      rw [if_neg h1, if_neg h2, if_neg h3, if_pos h4]
      obtain ⟨h5, h6⟩ := hex_len t h
      exact ⟨4, h5, by omega, by simp; omega⟩
    · simp at h

/-- A string's bytes from behind its quote on: the bytes, the place behind it (or that of the fault), the error. -/
def unqL : Nat → List UInt8 → List Int → Nat → Nat → ByteArray × Int × Int
  | 0, _, _, _, _ => (B [], 0, 52)
  | _ + 1, [], _, _, frm => (B [], frm, 52)
  | f + 1, c :: t, acc, pos, frm =>
    if c.toNat = 34 then (strOfNums acc, pos + 1, 0)
    else if c.toNat < 32 ∨ 126 < c.toNat then (B [], pos, 50)
    else if c.toNat = 92 then
      if (escL t).2.2 = 0 then (if acc.length = 256 then (B [], frm, 51) else unqL f ((c :: t).drop (escL t).2.1.toNat) (acc ++ [(escL t).1]) (pos + (escL t).2.1.toNat) frm)
      else if (escL t).2.2 = 52 then (B [], frm, 52) else (B [], pos, (escL t).2.2)
    else if acc.length = 256 then (B [], frm, 51)
    else unqL f t (acc ++ [(c.toNat : Int)]) (pos + 1) frm

theorem unq_ev (l : List UInt8) (hl : l.length ≤ 140737488355328) (frm : Nat) : ∀ (f : Nat) (rest pre : List UInt8) (acc : List Int), pre ++ rest = l → rest.length < f → acc.length ≤ 256 →
    Ev (fun k => token_unquote.l0 k (B l) (frm : Int) acc (pre.length : Int)) (unqL f rest acc pre.length frm) := by
  intro f
  induction f with
  | zero => intro rest pre acc _ h; omega
  | succ f ih =>
    intro rest pre acc hp hf hacc
    have hlen : pre.length + rest.length = l.length := by rw [← hp]; simp
    cases rest with
    | nil =>
      refine Ev.step (f := fun _ => some (B [], (frm : Int), 52)) ?_ (Ev.now _)
      intro k
      simp only [token_unquote.l0]
      rw [if_neg (by simp at hlen; rw [B_size]; omega)]
      rfl
    | cons c t =>
      simp only [List.length_cons] at hlen hf
      have hb : bt (B l) (pre.length : Int) = (c.toNat : Int) := by rw [← hp, bt_mid]
      have hc := c.toNat_lt
      have hext : (B l).extract ((pre.length : Int) + 1).toNat (B l).size = B t := by
        have := B_ext_rest (pre ++ [c]) t
        rw [show pre ++ [c] ++ t = l by rw [← hp]; simp] at this
        rw [show ((pre.length : Int) + 1).toNat = (pre ++ [c]).length by simp]
        exact this
      have w1 : wrap64 ((pre.length : Int) + 1) = (pre.length : Int) + 1 := w64 (by omega) (by omega)
      by_cases h34 : c.toNat = 34
      · refine Ev.step (f := fun _ => some (strOfNums acc, (pre.length : Int) + 1, 0)) ?_ ?_
        · intro k
          simp only [token_unquote.l0]
          rw [if_pos (by rw [B_size]; omega), if_pos (by omega), hb, if_pos (by omega), w1]
        · simp only [unqL, if_pos h34]
          exact Ev.now _
      · have step1 : ∀ r, Ev (fun k => token_unquote.j1 k (B l) (frm : Int) acc (pre.length : Int) (c.toNat : Int) 1 (decide (c.toNat < 32 ∨ 126 < c.toNat))) r → Ev (fun k => token_unquote.l0 k (B l) (frm : Int) acc (pre.length : Int)) r := by
          intro r hr
          refine Ev.step ?_ hr
          intro k
          simp only [token_unquote.l0]
          rw [if_pos (by rw [B_size]; omega), if_pos (by omega), hb, if_neg (by omega)]
          by_cases h32 : c.toNat < 32
          · rw [if_pos (by omega)]
            simp [h32]
          · rw [if_neg (by omega)]
            congr 1
            rw [Bool.eq_iff_iff]
            simp only [decide_eq_true_eq, gt_iff_lt]
            omega
        refine step1 _ ?_
        simp only [unqL, if_neg h34]
        by_cases hbad : c.toNat < 32 ∨ 126 < c.toNat
        · rw [if_pos hbad]
          refine Ev.step (f := fun _ => some (B [], (pre.length : Int), 50)) ?_ (Ev.now _)
          intro k
          simp only [token_unquote.j1, hbad, decide_true, if_true]
          rfl
        · rw [if_neg hbad]
          by_cases h92 : c.toNat = 92
          · rw [if_pos h92]
            refine Ev.step (f := fun k => (token_escape.f k (B t)).bind fun e => if e.2.2 = 0 then (if (acc.length : Int) = 256 then some (B [], (frm : Int), 51) else (if acc.length < 140737488355328 then token_unquote.l0 k (B l) (frm : Int) (acc ++ [e.1]) (wrap64 ((pre.length : Int) + e.2.1)) else none)) else (if e.2.2 = 52 then some (B [], (frm : Int), e.2.2) else some (B [], (pre.length : Int), e.2.2))) ?_ ?_
            · intro k
              simp only [token_unquote.j1, hbad, decide_false]
              rw [if_neg (by simp), if_pos (by omega), w1, if_pos (by omega), if_pos (by rw [B_size]; omega), hext]
              rfl
            · refine Ev.bind (escape_ev t (by omega)) ?_
              by_cases he : (escL t).2.2 = 0
              · rw [if_pos he]
                simp only [if_pos he]
                by_cases hq : acc.length = 256
                · rw [if_pos hq]
                  simp only [show ((acc.length : Int) = 256) = True from eq_true (by omega), if_true]
                  exact Ev.now _
                · rw [if_neg hq]
                  obtain ⟨n, hn, h2, h3⟩ := esc_len t he
                  rw [hn, Int.toNat_natCast]
                  simp only [show ((acc.length : Int) = 256) = False from eq_false (by omega), if_false, show (acc.length < 140737488355328) = True from eq_true (by omega), if_true]
                  rw [w64 (by omega) (by omega)]
                  have hlt : ((c :: t).take n).length = n := by simp; omega
                  have := ih ((c :: t).drop n) (pre ++ (c :: t).take n) (acc ++ [(escL t).1]) (by rw [List.append_assoc, List.take_append_drop, hp]) (by simp; omega) (by simp; omega)
                  rw [show ((pre ++ (c :: t).take n).length : Int) = (pre.length : Int) + (n : Int) by rw [List.length_append, hlt]; omega, show (pre ++ (c :: t).take n).length = pre.length + n by rw [List.length_append, hlt]] at this
                  exact this
              · rw [if_neg he]
                simp only [if_neg he]
                by_cases h52 : (escL t).2.2 = 52
                · rw [if_pos h52]
                  simp only [if_pos h52]
                  rw [h52]
                  exact Ev.now _
                · rw [if_neg h52]
                  simp only [if_neg h52]
                  exact Ev.now _
          · rw [if_neg h92]
            by_cases hq : acc.length = 256
            · rw [if_pos hq]
              refine Ev.step (f := fun _ => some (B [], (frm : Int), 51)) ?_ (Ev.now _)
              intro k
              simp only [token_unquote.j1, hbad, decide_false]
              rw [if_neg (by simp), if_neg (by omega), if_pos (by omega)]
              rfl
            · rw [if_neg hq]
              have := ih t (pre ++ [c]) (acc ++ [(c.toNat : Int)]) (by rw [← hp]; simp) (by omega) (by simp; omega)
              rw [show ((pre ++ [c]).length : Int) = (pre.length : Int) + 1 by simp, show (pre ++ [c]).length = pre.length + 1 by simp] at this
              refine Ev.step ?_ this
              intro k
              simp only [token_unquote.j1, hbad, decide_false]
              rw [if_neg (by simp), if_neg (by omega), if_neg (by omega), if_pos (by omega), w1]

theorem unq_end : ∀ (f : Nat) (rest : List UInt8) (acc : List Int) (pos frm : Nat), rest.length < f → (unqL f rest acc pos frm).2.2 = 0 → ∃ m : Nat, (unqL f rest acc pos frm).2.1 = m ∧ pos < m ∧ m ≤ pos + rest.length := by
  intro f
  induction f with
  | zero => intro rest acc pos frm h; omega
  | succ f ih =>
    intro rest acc pos frm hf h
    cases rest with
    | nil => simp [unqL] at h
    | cons c t =>
      simp only [List.length_cons] at hf ⊢
      simp only [unqL] at h ⊢
      by_cases h34 : c.toNat = 34
      · rw [if_pos h34]; exact ⟨pos + 1, by simp, by omega, by omega⟩
      · rw [if_neg h34] at h ⊢
        by_cases hbad : c.toNat < 32 ∨ 126 < c.toNat
        · rw [if_pos hbad] at h; simp at h
        · rw [if_neg hbad] at h ⊢
          by_cases h92 : c.toNat = 92
          · rw [if_pos h92] at h ⊢
            by_cases he : (escL t).2.2 = 0
            · rw [if_pos he] at h ⊢
              by_cases hq : acc.length = 256
              · rw [if_pos hq] at h; simp at h
              · rw [if_neg hq] at h ⊢
                obtain ⟨n, hn, h2, h3⟩ := esc_len t he
                rw [hn, Int.toNat_natCast] at h ⊢
                obtain ⟨m, e1, e2, e3⟩ := ih _ _ _ _ (by simp; omega) h
                exact ⟨m, e1, by omega, by simp at e3; omega⟩
            · rw [if_neg he] at h
              split at h
              · simp at h
              · exact absurd h he
          · rw [if_neg h92] at h ⊢
            by_cases hq : acc.length = 256
            · rw [if_pos hq] at h; simp at h
            · rw [if_neg hq] at h ⊢
              obtain ⟨m, e1, e2, e3⟩ := ih _ _ _ _ (by omega) h
              exact ⟨m, e1, by omega, by omega⟩
end Go.Proofs.YthmcapdakplhdaaDoor.Pu
end

/-! ## text PuTok4 -/
section
namespace Go.Proofs.YthmcapdakplhdaaDoor.Pu
open Go.RowKit Go.Proofs.YthmcapdakplhdaaDoor.Pr Go.Proofs.YthmcapdakplhdaaDoorW.PrintWords Go.Proofs.YthmcapdakplhdaaDoorW.PrintLast Go.Proofs.YthmcapdakplhdaaDoorW.PrintMore
set_option linter.unusedVariables false
set_option linter.unusedSimpArgs false

theorem takeWhile_le {α : Type} (p : α → Bool) (l : List α) : (l.takeWhile p).length ≤ l.length := by
  induction l with
  | nil => simp
  | cons a t ih => simp only [List.takeWhile_cons]; split <;> simp <;> omega
theorem dropWhile_le {α : Type} (p : α → Bool) (l : List α) : (l.dropWhile p).length ≤ l.length := by
  induction l with
  | nil => simp
  | cons a t ih => simp only [List.dropWhile_cons]; split <;> simp <;> omega
theorem signL_le (l : List UInt8) : signL l ≤ l.length ∧ signL l ≤ 2 := by
  cases l with
  | nil => simp [signL]
  | cons c t =>
    simp only [signL, List.length_cons]
    repeat' split
    all_goals first | omega | (rename_i h; cases t <;> simp_all)

/-- Not a line's end. -/
def notLf (c : UInt8) : Bool := c.toNat != 10
/-- How long the word or number is with which a text begins. -/
def runL (l : List UInt8) : Nat := (l.takeWhile goesB).length
theorem run_ev2 (v : Value) (l : List UInt8) (hl : l.length ≤ 140737488355328) : Ev (fun k => token_run.f k (B l) v) ((runL l : Nat) : Int) := by
  unfold runL
  exact run_ev v l hl
theorem runL_le (l : List UInt8) : runL l ≤ l.length := takeWhile_le _ _

/-- token.Scan on lists: from a place on, behind the tokens that are there. -/
def scanL : Nat → List UInt8 → List S44 → Nat → List S44 × Int × Int
  | 0, _, _, _ => ([], 0, 0)
  | _ + 1, [], out, pos => (out ++ [⟨5, B [], pos⟩], 0, 0)
  | f + 1, c :: t, out, pos =>
    if (c :: t).take 2 == [45, 45] then scanL f ((c :: t).dropWhile notLf) out (pos + ((c :: t).length - ((c :: t).dropWhile notLf).length))
    else if begL c = 1 then scanL f t out (pos + 1)
    else if begL c = 2 then (if 32 < runL (c :: t) then ([], pos, 51) else scanL f ((c :: t).drop (runL (c :: t))) (out ++ [⟨1, B ((c :: t).take (runL (c :: t))), pos⟩]) (pos + runL (c :: t)))
    else if begL c = 3 then (if isIntB ((c :: t).take (runL (c :: t))) = true then scanL f ((c :: t).drop (runL (c :: t))) (out ++ [⟨2, B ((c :: t).take (runL (c :: t))), pos⟩]) (pos + runL (c :: t)) else ([], pos, 51))
    else if begL c = 4 then
      (if (unqL (t.length + 1) t [] (pos + 1) pos).2.2 = 0 then scanL f ((c :: t).drop ((unqL (t.length + 1) t [] (pos + 1) pos).2.1.toNat - pos)) (out ++ [⟨3, (unqL (t.length + 1) t [] (pos + 1) pos).1, pos⟩]) (unqL (t.length + 1) t [] (pos + 1) pos).2.1.toNat
       else ([], (unqL (t.length + 1) t [] (pos + 1) pos).2.1, (unqL (t.length + 1) t [] (pos + 1) pos).2.2))
    else if begL c = 5 then scanL f ((c :: t).drop (signL (c :: t))) (out ++ [⟨4, B ((c :: t).take (signL (c :: t))), pos⟩]) (pos + signL (c :: t))
    else ([], pos, 50)

/-- token.Scan of a text's bytes. -/
def scan (l : List UInt8) : List S44 × Int × Int := if 4096 < l.length then ([], 0, 2) else scanL (l.length + 1) l [] 0

theorem comment_ev (l : List UInt8) (hl : l.length ≤ 4096) (out : List S44) (r : List S44 × Int × Int) : ∀ (rest pre : List UInt8), pre ++ rest = l →
    Ev (fun k => token_Scan.l0 k (B l) out ((pre.length + (rest.length - (rest.dropWhile notLf).length) : Nat) : Int)) r → Ev (fun k => token_Scan.l1 k (B l) out (pre.length : Int)) r := by
  intro rest
  induction rest with
  | nil =>
    intro pre hp h
    refine Ev.step ?_ (by simpa using h)
    intro k
    simp only [token_Scan.l1]
    rw [if_neg (by rw [B_size, ← hp]; simp)]
  | cons c t ih =>
    intro pre hp h
    have hlen : pre.length < l.length := by rw [← hp]; simp
    have hb : bt (B l) (pre.length : Int) = (c.toNat : Int) := by rw [← hp, bt_mid]
    by_cases h10 : c.toNat = 10
    · have hn : notLf c = false := by unfold notLf; rw [h10]; rfl
      have e : (c :: t).dropWhile notLf = c :: t := by rw [List.dropWhile_cons, hn]; rfl
      rw [e, Nat.sub_self, Nat.add_zero] at h
      refine Ev.step ?_ h
      intro k
      simp only [token_Scan.l1]
      rw [if_pos (by rw [B_size]; omega), if_pos (by omega), hb, if_pos (by omega)]
    · have hn : notLf c = true := by unfold notLf; simpa using h10
      have e : (c :: t).dropWhile notLf = t.dropWhile notLf := by rw [List.dropWhile_cons, hn]; rfl
      have hd := dropWhile_le notLf t
      rw [e] at h
      have := ih (pre ++ [c]) (by rw [← hp]; simp) (by
        rw [show (pre ++ [c]).length + (t.length - (t.dropWhile notLf).length) = pre.length + ((c :: t).length - (t.dropWhile notLf).length) by rw [List.length_append, List.length_cons, List.length_cons, List.length_nil]; omega]
        exact h)
      rw [show ((pre ++ [c]).length : Int) = (pre.length : Int) + 1 by simp] at this
      refine Ev.step ?_ this
      intro k
      simp only [token_Scan.l1]
      rw [if_pos (by rw [B_size]; omega), if_pos (by omega), hb, if_neg (by omega), w64 (by omega) (by omega)]

theorem isInt_f (l : List UInt8) (h : l.length ≤ 140737488355328) : token_isInt.f (B l) = some (isIntB l) := by
  unfold token_isInt.f
  rw [if_pos (by simpa using h)]
  rfl

theorem beg_goesN : ∀ n : Nat, n < 256 → begN n = 2 ∨ begN n = 3 → goesN n = true := by decide +kernel
theorem beg_goes (c : UInt8) (h : begL c = 2 ∨ begL c = 3) : goesB c = true := beg_goesN _ c.toNat_lt h
theorem beg_signN : ∀ n : Nat, n < 256 → begN n = 5 → signN n = true := by decide +kernel
theorem beg_sign (c : UInt8) (h : begL c = 5) : signN c.toNat = true := beg_signN _ c.toNat_lt h
theorem signL_pos (c : UInt8) (t : List UInt8) (h : signN c.toNat = true) : 1 ≤ signL (c :: t) := by
  simp only [signL]
  split
  · split <;> omega
  · split
    · omega
    · split
      · split <;> omega
      · simp [signN] at h
        omega

set_option maxRecDepth 100000 in
set_option maxHeartbeats 1000000 in
theorem scanL_ev (l : List UInt8) (hl : l.length ≤ 4096) : ∀ (f : Nat) (rest pre : List UInt8) (out : List S44), pre ++ rest = l → rest.length < f → out.length ≤ pre.length →
    Ev (fun k => token_Scan.l0 k (B l) out (pre.length : Int)) (scanL f rest out pre.length) := by
  intro f
  induction f with
  | zero => intro rest pre out _ h; omega
  | succ f ih =>
    intro rest pre out hp hf hout
    have hlen : pre.length + rest.length = l.length := by rw [← hp]; simp
    cases rest with
    | nil =>
      refine Ev.step (f := fun _ => some (out ++ [⟨5, B [], (pre.length : Int)⟩], 0, 0)) ?_ (Ev.now _)
      intro k
      simp only [List.length_nil, Nat.add_zero] at hlen
      simp only [token_Scan.l0]
      rw [if_neg (by rw [B_size]; omega), if_pos (by omega), B_size, hlen]
      rfl
    | cons c t =>
      simp only [List.length_cons] at hlen hf
      have hb : bt (B l) (pre.length : Int) = (c.toNat : Int) := by rw [← hp, bt_mid]
      have hext : (B l).extract ((pre.length : Int)).toNat (B l).size = B (c :: t) := by
        rw [Int.toNat_natCast, ← hp]
        exact B_ext_rest pre (c :: t)
      have hpre : strings_HasPrefix.f (B (c :: t)) (⟨#[45, 45]⟩ : ByteArray) = some ((c :: t).take 2 == [45, 45]) := hasPrefix (c :: t) [45, 45]
      have go : ∀ (n : Nat) (x : S44), 1 ≤ n → n ≤ (c :: t).length → Ev (fun k => token_Scan.l0 k (B l) (out ++ [x]) ((pre.length : Int) + (n : Int))) (scanL f ((c :: t).drop n) (out ++ [x]) (pre.length + n)) := by
        intro n x h1 h2
        have hlt : ((c :: t).take n).length = n := by rw [List.length_take]; omega
        have := ih ((c :: t).drop n) (pre ++ (c :: t).take n) (out ++ [x]) (by rw [List.append_assoc, List.take_append_drop, hp]) (by simp only [List.length_drop, List.length_cons]; omega) (by simp only [List.length_append, hlt, List.length_singleton]; omega)
        rw [show (pre ++ (c :: t).take n).length = pre.length + n by rw [List.length_append, hlt]] at this
        rw [show ((pre.length + n : Nat) : Int) = (pre.length : Int) + (n : Int) by omega] at this
        exact this
      have hcut : ∀ n : Nat, (B l).extract ((pre.length : Int)).toNat ((pre.length : Int) + (n : Int)).toNat = B ((c :: t).take n) := by
        intro n
        rw [Int.toNat_natCast, show ((pre.length : Int) + (n : Int)).toNat = pre.length + n by omega, ← hp]
        exact B_ext_mid pre (c :: t) n
      by_cases hcom : (c :: t).take 2 == [45, 45]
      · have hne : notLf c = true := by
          have : c = 45 := by cases t <;> simp_all
          rw [this]; rfl
        have e : ((c :: t).dropWhile notLf) = t.dropWhile notLf := by rw [List.dropWhile_cons, hne]; rfl
        have hd := dropWhile_le notLf t
        refine Ev.step (f := fun k => token_Scan.l1 k (B l) out (pre.length : Int)) ?_ ?_
        · intro k
          simp only [token_Scan.l0]
          rw [if_pos (by rw [B_size]; omega), if_pos (by omega), if_pos (by rw [B_size]; omega), hext, hpre]
          simp only [Option.bind_some, hcom, if_true]
        · simp only [scanL, hcom, if_true]
          refine comment_ev l hl out _ (c :: t) pre hp ?_
          have hsuf : ∃ a, c :: t = a ++ (c :: t).dropWhile notLf := ⟨(c :: t).takeWhile notLf, (List.takeWhile_append_dropWhile).symm⟩
          obtain ⟨a, ha⟩ := hsuf
          have hal : a.length = (c :: t).length - ((c :: t).dropWhile notLf).length := by have := congrArg List.length ha; rw [List.length_append] at this; omega
          have := ih ((c :: t).dropWhile notLf) (pre ++ a) out (by rw [List.append_assoc, ← ha, hp]) (by rw [e]; omega) (by rw [List.length_append]; omega)
          rw [show (pre ++ a).length = pre.length + ((c :: t).length - ((c :: t).dropWhile notLf).length) by rw [List.length_append, hal]] at this
          exact this
      · have hcom' : ((c :: t).take 2 == [45, 45]) = false := by simpa using hcom
        have hmono : ∀ k, LeO (token_Scan.l0 k (B l) out (pre.length : Int)) (token_Scan.l0 (k + 1) (B l) out (pre.length : Int)) := fun k => (token_Scan.mono_l k).1 _ _ _
        have hsz : ((B l).size : Int) = (l.length : Int) := by rw [B_size]
        have open_ : ∀ k, (token_begins.f k (c.toNat : Int)) = some (begL c) → ∀ r, (token_Scan.l0 (k + 1) (B l) out (pre.length : Int) = some r ↔ (if begL c = 1 then token_Scan.l0 k (B l) out ((pre.length : Int) + 1) else if begL c = 2 then ((token_run.f k (B (c :: t)) (.func (.func 48) #[] #[])).bind fun n => if n > 32 then some ([], (pre.length : Int), 51) else if (pre.length : Int) ≤ wrap64 ((pre.length : Int) + n) then (if wrap64 ((pre.length : Int) + n) ≤ (l.length : Int) then (token_Scan.l0 k (B l) (out ++ [⟨1, (B l).extract ((pre.length : Int)).toNat (wrap64 ((pre.length : Int) + n)).toNat, (pre.length : Int)⟩]) (wrap64 ((pre.length : Int) + n))) else none) else none) else if begL c = 3 then ((token_run.f k (B (c :: t)) (.func (.func 48) #[] #[])).bind fun n => if (pre.length : Int) ≤ wrap64 ((pre.length : Int) + n) then (if wrap64 ((pre.length : Int) + n) ≤ (l.length : Int) then ((token_isInt.f ((B l).extract ((pre.length : Int)).toNat (wrap64 ((pre.length : Int) + n)).toNat)).bind fun b => if b = true then (token_Scan.l0 k (B l) (out ++ [⟨2, (B l).extract ((pre.length : Int)).toNat (wrap64 ((pre.length : Int) + n)).toNat, (pre.length : Int)⟩]) (wrap64 ((pre.length : Int) + n))) else some ([], (pre.length : Int), 51)) else none) else none) else if begL c = 4 then ((token_unquote.f k (B l) (pre.length : Int)).bind fun u => if u.2.2 = 0 then (token_Scan.l0 k (B l) (out ++ [⟨3, u.1, (pre.length : Int)⟩]) u.2.1) else some ([], u.2.1, u.2.2)) else if begL c = 5 then ((token_signAt.f k (B (c :: t))).bind fun n => if (pre.length : Int) ≤ wrap64 ((pre.length : Int) + n) then (if wrap64 ((pre.length : Int) + n) ≤ (l.length : Int) then (token_Scan.l0 k (B l) (out ++ [⟨4, (B l).extract ((pre.length : Int)).toNat (wrap64 ((pre.length : Int) + n)).toNat, (pre.length : Int)⟩]) (wrap64 ((pre.length : Int) + n))) else none) else none) else some ([], (pre.length : Int), 50)) = some r) := by
          intro k hk r
          have hout2 : out.length < 4398046511104 := by omega
          simp only [token_Scan.l0]
          rw [if_pos (by rw [hsz]; omega), if_pos (by omega), if_pos (by rw [hsz]; omega), hext, hpre, hb]
          simp only [Option.bind_some, hcom', hk, if_pos hout2, hsz]
          rw [w64 (n := (pre.length : Int) + 1) (by omega) (by omega)]
          simp
        obtain ⟨K1, h1⟩ := begins_ev c
        simp only [scanL, hcom', Bool.false_eq_true, if_false]
        by_cases b1 : begL c = 1
        · as_aux_lemma =>
          obtain ⟨K2, h2⟩ := ih t (pre ++ [c]) out (by rw [← hp]; simp) (by omega) (by simp; omega)
          rw [show ((pre ++ [c]).length : Int) = (pre.length : Int) + 1 by simp, show (pre ++ [c]).length = pre.length + 1 by simp] at h2
          refine Ev.of hmono (k := K1 + K2 + 1) ((open_ (K1 + K2) (h1 (K1 + K2) (by omega)) _).2 ?_)
          rw [if_pos b1, if_pos b1]
          exact h2 (K1 + K2) (by omega)
        rw [if_neg b1]
        have hrl := runL_le (c :: t)
        simp only [List.length_cons] at hrl
        have hr1 : begL c = 2 ∨ begL c = 3 → 1 ≤ runL (c :: t) := by
          intro h
          have hg : goesB c = true := beg_goes c h
          simp [runL, hg]
        obtain ⟨K3, h3⟩ := run_ev2 (.func (.func 48) #[] #[]) (c :: t) (by simp; omega)
        replace h3 : ∀ k, K3 ≤ k → token_run.f k (B (c :: t)) (.func (.func 48) #[] #[]) = some ((runL (c :: t) : Nat) : Int) := h3
        by_cases b2 : begL c = 2
        · as_aux_lemma =>
          rw [if_pos b2]
          have hn := hr1 (.inl b2)
          by_cases h32 : 32 < runL (c :: t)
          · rw [if_pos h32]
            refine Ev.of hmono (k := K1 + K3 + 1) ((open_ (K1 + K3) (h1 (K1 + K3) (by omega)) _).2 ?_)
            rw [if_neg b1, if_pos b2, h3 (K1 + K3) (by omega)]
            rw [Option.bind_some]
            rw [if_pos (by show ((runL (c :: t) : Nat) : Int) > 32; omega)]
          · rw [if_neg h32]
            obtain ⟨K2, h2⟩ := go (runL (c :: t)) ⟨1, B ((c :: t).take (runL (c :: t))), pre.length⟩ hn (by simp; omega)
            refine Ev.of hmono (k := K1 + K2 + K3 + 1) ((open_ (K1 + K2 + K3) (h1 (K1 + K2 + K3) (by omega)) _).2 ?_)
            rw [if_neg b1, if_pos b2, h3 (K1 + K2 + K3) (by omega)]
            rw [Option.bind_some]
            rw [if_neg (by omega), w64 (by omega) (by omega), if_pos (by omega), if_pos (by omega), hcut]
            exact h2 (K1 + K2 + K3) (by omega)
        rw [if_neg b2]
        by_cases b3 : begL c = 3
        · as_aux_lemma =>
          rw [if_pos b3]
          have hn := hr1 (.inr b3)
          have hi := isInt_f ((c :: t).take (runL (c :: t))) (by have h5 := List.length_take_le (runL (c :: t)) (c :: t); omega)
          by_cases hb3 : isIntB ((c :: t).take (runL (c :: t))) = true
          · rw [if_pos hb3]
            obtain ⟨K2, h2⟩ := go (runL (c :: t)) ⟨2, B ((c :: t).take (runL (c :: t))), pre.length⟩ hn (by simp; omega)
            refine Ev.of hmono (k := K1 + K2 + K3 + 1) ((open_ (K1 + K2 + K3) (h1 (K1 + K2 + K3) (by omega)) _).2 ?_)
            rw [if_neg b1, if_neg b2, if_pos b3, h3 (K1 + K2 + K3) (by omega)]
            rw [Option.bind_some]
            rw [w64 (by omega) (by omega), if_pos (by omega), if_pos (by omega), hcut, hi]
            rw [Option.bind_some]
            rw [if_pos hb3]
            exact h2 (K1 + K2 + K3) (by omega)
          · rw [if_neg hb3]
            refine Ev.of hmono (k := K1 + K3 + 1) ((open_ (K1 + K3) (h1 (K1 + K3) (by omega)) _).2 ?_)
            rw [if_neg b1, if_neg b2, if_pos b3, h3 (K1 + K3) (by omega)]
            rw [Option.bind_some]
            rw [w64 (by omega) (by omega), if_pos (by omega), if_pos (by omega), hcut, hi]
            rw [Option.bind_some]
            rw [if_neg hb3]
        rw [if_neg b3]
        by_cases b4 : begL c = 4
        · as_aux_lemma =>
          rw [if_pos b4]
          obtain ⟨K3, h3⟩ := unq_ev l (by omega) pre.length (t.length + 1) t (pre ++ [c]) [] (by rw [← hp]; simp) (by omega) (by simp)
          rw [show ((pre ++ [c]).length : Int) = (pre.length : Int) + 1 by simp, show (pre ++ [c]).length = pre.length + 1 by simp] at h3
          have h4 : ∀ k, K3 ≤ k → token_unquote.f k (B l) (pre.length : Int) = some (unqL (t.length + 1) t [] (pre.length + 1) pre.length) := by
            intro k hk
            unfold token_unquote.f
            rw [w64 (by omega) (by omega)]
            exact h3 k hk
          by_cases he : (unqL (t.length + 1) t [] (pre.length + 1) pre.length).2.2 = 0
          · rw [if_pos he]
            obtain ⟨m, e1, e2, e3⟩ := unq_end _ _ _ _ _ (Nat.lt_succ_self _) he
            obtain ⟨K2, h2⟩ := go (m - pre.length) ⟨3, (unqL (t.length + 1) t [] (pre.length + 1) pre.length).1, pre.length⟩ (by omega) (by simp; omega)
            refine Ev.of hmono (k := K1 + K2 + K3 + 1) ((open_ (K1 + K2 + K3) (h1 (K1 + K2 + K3) (by omega)) _).2 ?_)
            rw [if_neg b1, if_neg b2, if_neg b3, if_pos b4, h4 (K1 + K2 + K3) (by omega)]
            rw [Option.bind_some]
            rw [if_pos he, e1, Int.toNat_natCast]
            have := h2 (K1 + K2 + K3) (by omega)
            rw [show (pre.length : Int) + ((m - pre.length : Nat) : Int) = (m : Int) by omega, show pre.length + (m - pre.length) = m by omega] at this
            exact this
          · rw [if_neg he]
            refine Ev.of hmono (k := K1 + K3 + 1) ((open_ (K1 + K3) (h1 (K1 + K3) (by omega)) _).2 ?_)
            rw [if_neg b1, if_neg b2, if_neg b3, if_pos b4, h4 (K1 + K3) (by omega)]
            rw [Option.bind_some]
            rw [if_neg he]
        rw [if_neg b4]
        by_cases b5 : begL c = 5
        · as_aux_lemma =>
          rw [if_pos b5]
          have hs1 : 1 ≤ signL (c :: t) := signL_pos c t (beg_sign c b5)
          have hs2 := signL_le (c :: t)
          simp only [List.length_cons] at hs2
          obtain ⟨K3, h3⟩ := signAt_ev (c :: t)
          replace h3 : ∀ k, K3 ≤ k → token_signAt.f k (B (c :: t)) = some ((signL (c :: t) : Nat) : Int) := h3
          obtain ⟨K2, h2⟩ := go (signL (c :: t)) ⟨4, B ((c :: t).take (signL (c :: t))), pre.length⟩ hs1 (by simp; omega)
          refine Ev.of hmono (k := K1 + K2 + K3 + 1) ((open_ (K1 + K2 + K3) (h1 (K1 + K2 + K3) (by omega)) _).2 ?_)
          rw [if_neg b1, if_neg b2, if_neg b3, if_neg b4, if_pos b5, h3 (K1 + K2 + K3) (by omega)]
          rw [Option.bind_some]
          rw [w64 (by omega) (by omega), if_pos (by omega), if_pos (by omega), hcut]
          exact h2 (K1 + K2 + K3) (by omega)
        · rw [if_neg b5]
          refine Ev.of hmono (k := K1 + 1) ((open_ (K1) (h1 (K1) (by omega)) _).2 ?_)
          rw [if_neg b1, if_neg b2, if_neg b3, if_neg b4, if_neg b5]

theorem scan_ev (l : List UInt8) : Ev (fun k => token_Scan.f k (B l)) (scan l) := by
  unfold scan
  by_cases h : 4096 < l.length
  · rw [if_pos h]
    exact Ev.congr (f := fun _ => some ([], 0, 2)) (fun k => by unfold token_Scan.f; rw [if_pos (by rw [B_size]; omega)]) (Ev.now _)
  · rw [if_neg h]
    exact Ev.congr (f := fun k => token_Scan.l0 k (B l) [] 0) (fun k => by unfold token_Scan.f; rw [if_neg (by rw [B_size]; omega)]) (scanL_ev l (by omega) _ l [] [] rfl (by omega) (by simp))
end Go.Proofs.YthmcapdakplhdaaDoor.Pu
end

/-! ## text PuTok5 -/
section
namespace Go.Proofs.YthmcapdakplhdaaDoor.Pu
open Go.RowKit Go.Proofs.YthmcapdakplhdaaDoor.Pr Go.Proofs.YthmcapdakplhdaaDoorW.PrintWords Go.Proofs.YthmcapdakplhdaaDoorW.PrintLast Go.Proofs.YthmcapdakplhdaaDoorW.PrintMore
set_option linter.unusedVariables false
set_option linter.unusedSimpArgs false

/-- Can a token be? -/
def canL (kind : Int) (l : List UInt8) (last : Bool) : Bool :=
  if kind = 1 then (match l with | [] => false | c :: t => decide ((c :: t).length ≤ 32) && decide (begL c = 2) && decide (runL (c :: t) = (c :: t).length))
  else if kind = 2 then isIntB l
  else if kind = 3 then decide (l.length ≤ 256)
  else if kind = 4 then (match l with | [] => false | c :: t => decide (signL (c :: t) = (c :: t).length))
  else if kind = 5 then (match l with | [] => last | _ => false)
  else false

theorem can_ev (kind : Int) (l : List UInt8) (at_ : Int) (last : Bool) (hl : l.length ≤ 140737488355328) : ∃ k, token_canBe.f k kind (B l) at_ last = some (canL kind l last) := by
  have hn : ∀ c t, l = c :: t → ((B l).toList = ([] : List UInt8)) = False := fun c t h => by rw [h]; simp
  obtain ⟨K2, h2⟩ := run_ev2 (.func (.func 48) #[] #[]) l hl
  obtain ⟨K3, h3⟩ := signAt_ev l
  replace h2 : ∀ k, K2 ≤ k → token_run.f k (B l) (.func (.func 48) #[] #[]) = some ((runL l : Nat) : Int) := h2
  replace h3 : ∀ k, K3 ≤ k → token_signAt.f k (B l) = some (signL l : Int) := h3
  unfold token_canBe.f canL
  by_cases k1 : kind = 1
  · simp only [if_pos k1]
    cases l with
    | nil => exact ⟨0, by simp⟩
    | cons c t =>
      obtain ⟨K1, h1⟩ := begins_ev c
      replace h1 : ∀ k, K1 ≤ k → token_begins.f k (c.toNat : Int) = some (begL c) := h1
      refine ⟨K1 + K2, ?_⟩
      rw [if_neg (by simp)]
      by_cases h32 : (c :: t).length ≤ 32
      · rw [if_pos (by rw [B_size]; omega), if_pos (by simp), bt_head, h1 (K1 + K2) (by omega), Option.bind_some]
        by_cases hb : begL c = 2
        · rw [if_pos hb, h2 (K1 + K2) (by omega), Option.bind_some, B_size]
          congr 1
          rw [Bool.eq_iff_iff]
          simp only [beq_iff_eq, h32, hb, decide_true, Bool.true_and, decide_eq_true_eq]
          omega
        · rw [if_neg hb]; simp [hb]
      · rw [if_neg (by rw [B_size]; omega)]; simp only [h32, decide_false, Bool.false_and]
  simp only [if_neg k1]
  by_cases k2 : kind = 2
  · simp only [if_pos k2]
    exact ⟨0, by rw [isInt_f l hl]; rfl⟩
  simp only [if_neg k2]
  by_cases k3 : kind = 3
  · simp only [if_pos k3]
    exact ⟨0, by rw [B_size]; congr 2; rw [eq_iff_iff]; omega⟩
  simp only [if_neg k3]
  by_cases k4 : kind = 4
  · simp only [if_pos k4]
    cases l with
    | nil => exact ⟨0, by simp⟩
    | cons c t =>
      refine ⟨K3, ?_⟩
      rw [if_neg (by simp), h3 K3 (by omega), Option.bind_some, B_size]
      congr 1
      rw [Bool.eq_iff_iff]
      simp only [beq_iff_eq, decide_eq_true_eq]
      omega
  simp only [if_neg k4]
  by_cases k5 : kind = 5
  · simp only [if_pos k5]
    cases l with
    | nil => exact ⟨0, by simp⟩
    | cons c t => exact ⟨0, by rw [if_neg (by simp)]⟩
  exact ⟨0, by simp only [if_neg k5]⟩
end Go.Proofs.YthmcapdakplhdaaDoor.Pu
end

/-! ## text PuTok6 -/
section
namespace Go.Proofs.YthmcapdakplhdaaDoor.Pu
open Go.RowKit Go.Proofs.YthmcapdakplhdaaDoor.Pr Go.Proofs.YthmcapdakplhdaaDoorW.PrintWords Go.Proofs.YthmcapdakplhdaaDoorW.PrintLast Go.Proofs.YthmcapdakplhdaaDoorW.PrintMore
set_option linter.unusedVariables false
set_option linter.unusedSimpArgs false

/-- The hexadecimal digits. -/
def lowH : ByteArray := ⟨#[48, 49, 50, 51, 52, 53, 54, 55, 56, 57, 97, 98, 99, 100, 101, 102]⟩
/-- A byte as token.Spell writes it within a string. -/
def pq (n : Int) : List Int :=
  if n = 34 ∨ n = 92 then [92, n]
  else if n = 10 then [92, 110]
  else if n = 9 then [92, 116]
  else if n < 32 ∨ 126 < n then [92, 120, bt lowH (n / 16), bt lowH (Go.bits .and .u8 n 15)]
  else [n]
theorem pq_len : ∀ n : Nat, n < 256 → (pq n).length ≤ 4 ∧ 1 ≤ (pq n).length := by decide +kernel
theorem pq_dig : ∀ n : Nat, n < 256 → (0 : Int) ≤ n / 16 ∧ (n : Int) / 16 < 16 ∧ 0 ≤ Go.bits .and .u8 n 15 ∧ Go.bits .and .u8 n 15 < 16 := by decide +kernel
/-- A string's bytes as they are written, without the quotes. -/
def pqs : List UInt8 → List Int
  | [] => []
  | c :: t => pq c.toNat ++ pqs t
theorem pqs_len : ∀ l : List UInt8, (pqs l).length ≤ 4 * l.length ∧ l.length ≤ (pqs l).length := by
  intro l
  induction l with
  | nil => simp [pqs]
  | cons c t ih =>
    have := pq_len c.toNat c.toNat_lt
    simp only [pqs, List.length_append, List.length_cons]
    omega

theorem pq_step (x0 : ByteArray) (x3 : List Int) (n : Nat) (hn : n < 256) (x8 i : Int) (hx : x3.length + 4 < 140737488355328) (r : ByteArray)
    (h : Ev (fun k => token_quoted.l0 k x0 (x3 ++ pq n) x8 (wrap64 (i + 1))) r) : Ev (fun k => token_quoted.j1 k x0 x3 n x8 i (decide ((n : Int) = 34 ∨ (n : Int) = 92))) r := by
  obtain ⟨d1, d2, d3, d4⟩ := pq_dig n hn
  refine Ev.step ?_ h
  intro K
  rw [token_quoted.j1, pq]
  by_cases h1 : (n : Int) = 34 ∨ (n : Int) = 92
  · rw [if_pos (by simpa using h1), if_pos h1, Option.bind_some, if_pos (by simp; omega)]
  rw [if_neg (by simpa using h1), if_neg h1]
  by_cases h2 : (n : Int) = 10
  · rw [if_pos h2, if_pos h2, Option.bind_some, if_pos (by simp; omega)]
  rw [if_neg h2, if_neg h2]
  by_cases h3 : (n : Int) = 9
  · rw [if_pos h3, if_pos h3, Option.bind_some, if_pos (by simp; omega)]
  rw [if_neg h3, if_neg h3]
  by_cases h4 : (n : Int) < 32
  · rw [if_pos h4, if_pos d1, if_pos d2, if_pos d3, if_pos d4, Option.bind_some, if_pos (by simp; omega), if_pos (.inl h4)]
    rfl
  rw [if_neg h4]
  by_cases h5 : (n : Int) > 126
  · rw [if_pos h5, if_pos d1, if_pos d2, if_pos d3, if_pos d4, Option.bind_some, if_pos (by simp; omega), if_pos (.inr h5)]
    rfl
  rw [if_neg h5, if_pos (by omega), if_neg (by omega)]

theorem quo_loop (l : List UInt8) (hl : l.length ≤ 17592186044416) : ∀ (rest pre : List UInt8), pre ++ rest = l →
    Ev (fun k => token_quoted.l0 k (B l) (34 :: pqs pre) (l.length : Int) (pre.length : Int)) (strOfNums (34 :: (pqs pre ++ pqs rest) ++ [34])) := by
  intro rest
  induction rest with
  | nil =>
    intro pre hp
    have h1 := pqs_len pre
    simp only [List.append_nil] at hp
    subst hp
    refine Ev.step (f := fun _ => some (strOfNums (34 :: (pqs pre ++ pqs []) ++ [34]))) ?_ (Ev.now _)
    intro K
    rw [token_quoted.l0, if_neg (by omega), if_pos (by simp; omega)]
    simp [pqs]
  | cons c t ih =>
    intro pre hp
    have h1 := pqs_len pre
    have hlen : pre.length + t.length + 1 = l.length := by rw [← hp]; simp; omega
    have hb : bt (B l) (pre.length : Int) = (c.toNat : Int) := by rw [← hp, bt_mid]
    have happ : ∀ (a b : List UInt8), pqs (a ++ b) = pqs a ++ pqs b := by
      intro a b
      induction a with
      | nil => rfl
      | cons x a ih => simp only [List.cons_append, pqs, ih, List.append_assoc]
    have := ih (pre ++ [c]) (by rw [← hp]; simp)
    rw [show ((pre ++ [c]).length : Int) = wrap64 ((pre.length : Int) + 1) by rw [w64 (by omega) (by omega)]; simp, happ] at this
    have e1 : pqs [c] = pq c.toNat := by simp [pqs]
    rw [e1] at this
    rw [show 34 :: (pqs pre ++ pqs (c :: t)) ++ [34] = 34 :: (pqs pre ++ pq c.toNat ++ pqs t) ++ [34] by simp [pqs]]
    have h2 := pq_step (B l) (34 :: pqs pre) c.toNat c.toNat_lt (l.length : Int) (pre.length : Int) (by simp; omega) _ this
    refine Ev.step ?_ h2
    intro K
    rw [token_quoted.l0, if_pos (by omega), if_pos (by omega), if_pos (by rw [B_size]; omega), hb]
    by_cases h : (c.toNat : Int) = 34
    · rw [if_pos h]; simp [h]
    · rw [if_neg h]
      congr 1
      rw [Bool.eq_iff_iff]
      simp [h]

/-- A string as it is written. -/
def quoB (s : ByteArray) : ByteArray := strOfNums (34 :: pqs s.data.toList ++ [34])
theorem quoted_ev (l : List UInt8) (hl : l.length ≤ 17592186044416) : ∃ k, token_quoted.f k (B l) = some (quoB (B l)) := by
  obtain ⟨K, h⟩ := quo_loop l hl l [] rfl
  refine ⟨K, ?_⟩
  have := h K (Nat.le_refl _)
  unfold token_quoted.f quoB
  rw [B_size]
  exact this
end Go.Proofs.YthmcapdakplhdaaDoor.Pu
end

/-! ## text PuVal -/
section
/- Numbers of decimal digits: what they are worth; a number's text has at most nineteen of them. -/
namespace Go.Proofs.YthmcapdakplhdaaDoor.Pu
open Go Go.RowKit Go.Proofs.YthmcapdakplhdaaDoor.Pr Go.Proofs.YthmcapdakplhdaaDoorW.PrintWords Go.Proofs.YthmcapdakplhdaaDoorW.PrintLast Go.Proofs.YthmcapdakplhdaaDoorW.PrintMore
set_option linter.unusedVariables false
set_option linter.unusedSimpArgs false
/-! numbers -/
def valD (acc : Nat) (l : List UInt8) : Nat := l.foldl (fun a c => a * 10 + (c.toNat - 48)) acc
theorem valD_nil (acc : Nat) : valD acc [] = acc := List.foldl_nil
theorem valD_cons (acc : Nat) (c : UInt8) (r : List UInt8) : valD acc (c :: r) = valD (acc * 10 + (c.toNat - 48)) r := List.foldl_cons ..
theorem val_lo : ∀ (l : List UInt8) (acc : Nat), acc * 10 ^ l.length ≤ valD acc l
  | [], acc => by simp [valD_nil]
  | c :: r, acc => by
    have ih := val_lo r (acc * 10 + (c.toNat - 48))
    rw [valD_cons, List.length_cons, Nat.pow_succ, Nat.mul_comm (10 ^ r.length) 10, ← Nat.mul_assoc]
    exact Nat.le_trans (Nat.mul_le_mul_right _ (Nat.le_add_right _ _)) ih
theorem val_hi : ∀ (l : List UInt8) (acc : Nat), l.all digB = true → valD acc l + 1 ≤ (acc + 1) * 10 ^ l.length
  | [], acc, _ => by simp [valD_nil]
  | c :: r, acc, h => by
    rw [List.all_cons, Bool.and_eq_true] at h
    have ih := val_hi r (acc * 10 + (c.toNat - 48)) h.2
    have hc : c.toNat - 48 ≤ 9 := by have := h.1; simp [digB] at this; omega
    rw [valD_cons, List.length_cons, Nat.pow_succ, Nat.mul_comm (10 ^ r.length) 10, ← Nat.mul_assoc]
    exact Nat.le_trans ih (Nat.mul_le_mul_right _ (by omega))
theorem val_ge (l : List UInt8) (acc : Nat) : acc ≤ valD acc l := Nat.le_trans (Nat.le_mul_of_pos_right _ (Nat.pos_of_ne_zero (by simp))) (val_lo l acc)
theorem parse_val : ∀ (l : List UInt8) (acc : Nat), l.all digB = true → (match Lib.parseUintM 18446744073709551615 acc l with | .ok u => decide (u ≤ 9223372036854775807) | _ => false) = decide (valD acc l ≤ 9223372036854775807)
  | [], acc, _ => rfl
  | c :: r, acc, h => by
    rw [List.all_cons, Bool.and_eq_true] at h
    have hc : 48 ≤ c.toNat ∧ c.toNat ≤ 57 := by have := h.1; simp [digB] at this; exact this
    have hg := val_ge r (acc * 10 + (c.toNat - 48))
    rw [Lib.parseUintM, valD_cons, if_pos hc]
    by_cases h1 : 1844674407370955162 ≤ acc
    · rw [if_pos h1]
      symm
      exact decide_eq_false (by omega)
    · rw [if_neg h1]
      by_cases h2 : 18446744073709551615 < acc * 10 + (c.toNat - 48)
      · rw [if_pos h2]
        symm
        exact decide_eq_false (by omega)
      · rw [if_neg h2]
        exact parse_val r _ h.2
theorem lex_val : ∀ (a b : List UInt8) (acc : Nat), a.length = b.length → a.all digB = true → b.all digB = true → ((Op.bytesLess a b = true ∨ a = b) ↔ valD acc a ≤ valD acc b)
  | [], [], acc, _, _, _ => by simp [valD_nil]
  | x :: a, y :: b, acc, hl, ha, hb => by
    rw [List.all_cons, Bool.and_eq_true] at ha hb
    have hl' : a.length = b.length := by simpa using hl
    have hx : 48 ≤ x.toNat ∧ x.toNat ≤ 57 := by have := ha.1; simp [digB] at this; exact this
    have hy : 48 ≤ y.toNat ∧ y.toNat ≤ 57 := by have := hb.1; simp [digB] at this; exact this
    rw [Op.bytesLess, valD_cons, valD_cons]
    rcases Nat.lt_trichotomy x.toNat y.toNat with h | h | h
    · have e : (x < y) := UInt8.lt_iff_toNat_lt.2 h
      have h1 := val_hi a (acc * 10 + (x.toNat - 48)) ha.2
      have h2 := val_lo b (acc * 10 + (y.toNat - 48))
      have h3 := Nat.mul_le_mul_right (10 ^ a.length) (show acc * 10 + (x.toNat - 48) + 1 ≤ acc * 10 + (y.toNat - 48) by omega)
      rw [← hl'] at h2
      constructor
      · intro _; omega
      · intro _; left; simp [e]
    · have e : x = y := UInt8.toNat_inj.1 h
      subst e
      have ih := lex_val a b (acc * 10 + (x.toNat - 48)) hl' ha.2 hb.2
      rw [← ih]
      simp
    · have e : ¬ (x < y) := fun q => by have := UInt8.lt_iff_toNat_lt.1 q; omega
      have e2 : x ≠ y := fun q => by rw [q] at h; omega
      have h1 := val_hi b (acc * 10 + (y.toNat - 48)) hb.2
      have h2 := val_lo a (acc * 10 + (x.toNat - 48))
      have h3 := Nat.mul_le_mul_right (10 ^ b.length) (show acc * 10 + (y.toNat - 48) + 1 ≤ acc * 10 + (x.toNat - 48) by omega)
      rw [hl'] at h2
      constructor
      · rintro (q | q)
        · simp [e, e2] at q
        · exact absurd (List.cons.inj q).1 e2
      · intro q; omega
/-- The greatest number's digits. -/
def mostD : List UInt8 := [57, 50, 50, 51, 51, 55, 50, 48, 51, 54, 56, 53, 52, 55, 55, 53, 56, 48, 55]
theorem most_val : valD 0 mostD = 9223372036854775807 ∧ mostD.all digB = true ∧ mostD.length = 19 := by decide +kernel
/-- What small tells. -/
def smallB (w : List UInt8) : Bool := if decide (1 < w.length) && w.head? == some 48 then false else if w.length = 19 then Op.bytesLess w mostD || w == mostD else decide (w.length < 19)
theorem small_int (w : List UInt8) (hne : w ≠ []) (hd : w.all digB = true) : smallB w = isIntB w := by
  have hpe : Lib.parseUintB 64 w = Lib.parseUintM 18446744073709551615 0 w := by
    unfold Lib.parseUintB
    rw [if_neg hne]
  have hp := parse_val w 0 hd
  have hI : isIntB w = (!w.isEmpty && !(decide (1 < w.length) && w.head? == some 48) && w.all digB && decide (valD 0 w ≤ 9223372036854775807)) := by
    unfold isIntB
    rw [hpe]
    exact congrArg (fun z => !w.isEmpty && !(decide (1 < w.length) && w.head? == some 48) && w.all digB && z) hp
  rw [hI]
  unfold smallB
  rw [hd, Bool.and_true, show (!w.isEmpty) = true by cases w with | nil => exact absurd rfl hne | cons _ _ => rfl, Bool.true_and]
  by_cases hz : (decide (1 < w.length) && w.head? == some 48) = true
  · rw [if_pos hz, hz]; rfl
  · rw [if_neg hz]
    rw [Bool.not_eq_true] at hz
    rw [hz, Bool.not_false, Bool.true_and]
    by_cases h19 : w.length = 19
    · rw [if_pos h19]
      have := lex_val w mostD 0 (by rw [h19, most_val.2.2]) hd most_val.2.1
      rw [most_val.1] at this
      rw [Bool.eq_iff_iff, Bool.or_eq_true, beq_iff_eq, decide_eq_true_eq]
      exact this
    · rw [if_neg h19]
      rw [Bool.eq_iff_iff, decide_eq_true_eq, decide_eq_true_eq]
      constructor
      · intro h
        have h1 := val_hi w 0 hd
        have h2 : 10 ^ w.length ≤ 10 ^ 18 := Nat.pow_le_pow_right (by decide) (by omega)
        have h3 : (10 : Nat) ^ 18 = 1000000000000000000 := by decide
        omega
      · intro h
        rcases Nat.lt_or_ge w.length 19 with q | q
        · exact q
        · exfalso
          match w, hne, hz, h, h19, q, hd with
          | c :: r, _, hz, h, h19, q, hd =>
            rw [List.length_cons] at q h19
            have hc : 48 < c.toNat := by
              rw [List.all_cons, Bool.and_eq_true] at hd
              have h48 : 48 ≤ c.toNat := by have := hd.1; simp [digB] at this; exact this.1
              rcases Nat.lt_or_ge 48 c.toNat with g | g
              · exact g
              · exfalso
                have e : c = 48 := UInt8.toNat_inj.1 (by show c.toNat = 48; omega)
                subst e
                rw [decide_eq_true (by rw [List.length_cons]; omega), Bool.true_and] at hz
                simp at hz
            rw [valD_cons] at h
            have h1 := val_lo r (0 * 10 + (c.toNat - 48))
            have h2 : 10 ^ 19 ≤ 10 ^ r.length := Nat.pow_le_pow_right (by decide) (by omega)
            have h3 : (10 : Nat) ^ 19 = 10000000000000000000 := by decide
            have h4 := Nat.mul_le_mul_right (10 ^ r.length) (show 1 ≤ 0 * 10 + (c.toNat - 48) by omega)
            omega
theorem isInt_len (w : List UInt8) (h : isIntB w = true) : w.length ≤ 19 := by
  have hne : w ≠ [] := by rintro rfl; simp [isIntB] at h
  have hd : w.all digB = true := by unfold isIntB at h; simp only [Bool.and_eq_true] at h; exact h.1.2
  rw [← small_int w hne hd] at h
  unfold smallB at h
  by_cases hz : (decide (1 < w.length) && w.head? == some 48) = true
  · rw [if_pos hz] at h; cases h
  · rw [if_neg hz] at h
    by_cases h19 : w.length = 19
    · omega
    · rw [if_neg h19, decide_eq_true_eq] at h; omega
end Go.Proofs.YthmcapdakplhdaaDoor.Pu
end

/-! ## text ExtTok3 -/
section
namespace Go.Proofs.YthmcapdakplhdaaDoor.Pr
open Go.RowKit Go.Proofs.YthmcapdakplhdaaDoor.Pu Go.Proofs.YthmcapdakplhdaaDoorW.PrintWords Go.Proofs.YthmcapdakplhdaaDoorW.PrintLast Go.Proofs.YthmcapdakplhdaaDoorW.PrintMore
set_option linter.unusedVariables false
set_option linter.unusedSimpArgs false

/-- Can a token be? -/
def canT (t : S44) (last : Bool) : Bool := canL t.f0 t.f1.data.toList last
/-- What token.Spell answers. -/
def token_Spell.f (l0 : List S44) : Option (ByteArray × Int) :=
  if l0.length ≤ 4611686018427387904 ∧ (∀ t ∈ l0, t.f1.size ≤ 140737488355328) then some (if spellOk canT l0 = true then spellW quoB l0 [] else (⟨#[]⟩, 1)) else none

theorem quoB_size (s : ByteArray) : (quoB s).size ≤ 4 * s.size + 2 := by
  have h := pqs_len s.data.toList
  unfold quoB
  rw [strOfNums_nat, B_size, List.length_map, List.length_append, List.length_cons, List.length_singleton]
  have e : s.data.toList.length = s.size := by simp
  omega

theorem canL_len (kind : Int) (l : List UInt8) (last : Bool) (h : canL kind l last = true) : l.length ≤ 256 := by
  unfold canL at h
  by_cases k1 : kind = 1
  · rw [if_pos k1] at h
    cases l with
    | nil => simp
    | cons c t =>
      simp only [Bool.and_eq_true, decide_eq_true_eq] at h
      omega
  rw [if_neg k1] at h
  by_cases k2 : kind = 2
  · rw [if_pos k2] at h
    have := isInt_len l h
    omega
  rw [if_neg k2] at h
  by_cases k3 : kind = 3
  · rw [if_pos k3, decide_eq_true_eq] at h
    exact h
  rw [if_neg k3] at h
  by_cases k4 : kind = 4
  · rw [if_pos k4] at h
    cases l with
    | nil => simp
    | cons c t =>
      simp only [decide_eq_true_eq] at h
      have := signL_le (c :: t)
      omega
  rw [if_neg k4] at h
  by_cases k5 : kind = 5
  · rw [if_pos k5] at h
    cases l with
    | nil => simp
    | cons c t => cases h
  rw [if_neg k5] at h
  cases h
theorem spellOk_mem : ∀ (l : List S44), spellOk canT l = true → ∀ t ∈ l, t.f1.size ≤ 256
  | [], _, t, ht => by cases ht
  | x :: r, h, t, ht => by
    rw [spellOk, Bool.and_eq_true] at h
    rcases List.mem_cons.1 ht with rfl | ht
    · have := canL_len _ _ _ h.1
      simpa using this
    · exact spellOk_mem r h.2 t ht

theorem token_Spell.calls (A0 : Option Addr) (c0 : Nat) (l0 : List S44) (r1 : ByteArray) (r2 : Int) (w : World) (hr0 : Kd.C k44 w A0 l0.length l0) (hc0 : l0.length ≤ c0) (HL_LErr : Aside0 (LErr w)) (h : token_Spell.f l0 = some (r1, r2)) :
    Calls Tryd.prog 23 #[.slice A0 l0.length c0] w fun e w' => e = .returned (.tuple #[.string r1, .int .i64 r2]) ∧ Below w.heap.size w w' := by
  unfold token_Spell.f at h
  by_cases hs : l0.length ≤ 4611686018427387904 ∧ (∀ t ∈ l0, t.f1.size ≤ 140737488355328)
  · rw [if_pos hs] at h
    refine spell_walk canT quoB A0 c0 l0 r1 r2 w hr0 hc0 ⟨hs.1⟩ HL_LErr ⟨fun t ht b => ?_⟩ ⟨fun hok t ht => ?_⟩ ⟨fun hok t ht => ?_⟩ ⟨Option.some.inj h⟩
    · have := hs.2 t ht
      have h2 := can_ev t.f0 t.f1.data.toList t.f2 b (by simp; omega)
      rw [B_of] at h2
      exact h2
    · have := spellOk_mem l0 hok t ht
      have h2 := quoted_ev t.f1.data.toList (by simp; omega)
      rw [B_of] at h2
      exact h2
    · have := spellOk_mem l0 hok t ht
      have h2 := quoB_size t.f1
      omega
  · rw [if_neg hs] at h
    cases h
end Go.Proofs.YthmcapdakplhdaaDoor.Pr
end

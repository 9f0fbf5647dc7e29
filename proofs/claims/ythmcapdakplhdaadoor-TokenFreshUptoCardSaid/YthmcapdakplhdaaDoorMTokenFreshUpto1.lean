/-
Part 1 of the proof of the law TokenFreshUpto: texts ExtBk3, Prx9, Prx10, Prx11, Prx12, ShA, ExtTok1.
-/
import Derived.Ground.MpProg
import Derived.Lib.AtoiErrMem
import Derived.Lib.ParseIntBCases
import Derived.Shelf.LaysM
import Derived.Shelf.Pu.ErrVarParseUint
import Derived.Shelf.Pu.ParseUintPublic10
import Derived.Shelf.Small.Strs
import Derived.Shelf.Small.Utf8
import Derived.Shelf.Strconv.Lower
import Derived.Shelf.Strconv.ParseUint10
import Derived.Shelf.Strconv.ParseUint10At
import Derived.Shelf.Strconv.ParseUint10b16
import Derived.Shelf.Strconv.ParseUint10b32
import Derived.Shelf.Strconv.ParseUint10b64
import Derived.Shelf.Strconv.ParseUint10b8
import Derived.Shelf.Strconv.ParseUintEmpty
import Derived.Shelf.Strings.AsciiSet
import Derived.Shelf.Strings.Builder1
import Derived.Shelf.Strings.Builder2
import Derived.Shelf.Strings.BuilderF
import Derived.Shelf.Strings.BuilderK
import Derived.Shelf.Strings.Count
import Derived.Shelf.Strings.IndexAny
import Derived.Shelf.Strings.IndexAnyAll
import Derived.Shelf.Strings.Prefix
import Derived.Shelf.Strings.Replace
import Derived.Shelf.Strings.Runes
import Derived.Shelf.Strings.Search1
import Derived.Shelf.Strings.Search2
import Derived.Shelf.Strings.Search3
import Derived.Shelf.Strings.Shaped
import Derived.Shelf.Strings.Split
import Derived.Shelf.Strings.SplitShaped
import Derived.Shelf.Unicode.DecodeSlow
import Derived.Test.YthmcapdakplhdaaDoorMTokenFreshUpto0
import Derived.Test.YthmcapdakplhdaaDoorProg
/-! ## text ExtBk3 -/
section
/- Lists that are kept, two by two: got and want. -/
namespace Go.Proofs.YthmcapdakplhdaaDoor.Pr
open Go Go.RowKit Go.Proofs.YthmcapdakplhdaaDoorW.PrintWords Go.Proofs.YthmcapdakplhdaaDoorW.PrintLast Go.Proofs.YthmcapdakplhdaaDoorW.PrintMore
set_option maxRecDepth 100000
set_option linter.unusedVariables false
set_option linter.unusedSimpArgs false
theorem R_low {W : World} {base k : Nat} {ok : Nat → Prop} {v : Value} {xs : List S44} (h : Kd.R k44 44 W base ok v xs) (hk : v.ownBlock = some k) : base ≤ k := by
  rcases (enc_of_R h).2 with ⟨e, _⟩ | ⟨b, cap, cur, e, hb, hh, _⟩
  · rw [e] at hk; cases hk
  · rw [e] at hk
    injection hk with hk
    have : b = k := hk
    omega
structure Kp (W : World) (base : Nat) (vg vw : Value) (gs ws : List Value) : Prop where
  G : W.ownsRow base 40 1 vg gs.length gs
  U : W.ownsRow base 40 1 vw ws.length ws
  L : gs.length = ws.length
  R : ∀ (j : Nat) (h u : Value), gs[j]? = some h → ws[j]? = some u → ∃ r : List S44, r.length ≤ 4097 ∧ Kd.R k44 44 W base (fun _ => True) h r ∧ Kd.R k44 44 W base (fun _ => True) u r
  D : ∀ (i j : Nat) (a b : Value), i ≠ j → gs[i]? = some a → gs[j]? = some b → ∀ k, a.ownBlock = some k → b.ownBlock ≠ some k
  V : ∀ k, vg.ownBlock = some k → vw.ownBlock ≠ some k
theorem Kp.nil (W : World) (base : Nat) : Kp W base (.slice none 0 0) (.slice none 0 0) [] [] :=
  ⟨World.ownsRow_nil W _ 40 1, World.ownsRow_nil W _ 40 1, rfl, fun j h u hj => by simp at hj, fun i j a b _ hi => by simp at hi, fun k hk => by simp [Value.ownBlock] at hk⟩
theorem V_move {W W' : World} {base n : Nat} {u : Value} {hs : List Value} (h : W.ownsRow base 40 1 u n hs) (e : ∀ k, k < W.heap.size → u.ownBlock = some k → W'.heap[k]? = W.heap[k]?) : W'.ownsRow base 40 1 u n hs := own_move h (fun k hk => e k (V_blk h hk) hk)
theorem Kp.move {W W' : World} {base : Nat} {vg vw : Value} {gs ws : List Value} {g : Nat} (h : Kp W base vg vw gs ws) (hg : ∃ cs, W.heap[g]? = some (.cells cs 64 (0, 0))) (e : ∀ k, k < W.heap.size → k ≠ g → W'.heap[k]? = W.heap[k]?) : Kp W' base vg vw gs ws := by
  obtain ⟨cs, hg⟩ := hg
  refine ⟨V_move h.G (fun k hk h1 => e k hk (fun q => V_type h.G hg (by decide) (by rw [← q]; exact h1))), V_move h.U (fun k hk h1 => e k hk (fun q => V_type h.U hg (by decide) (by rw [← q]; exact h1))), h.L, fun j a b ha hb => ?_, h.D, h.V⟩
  obtain ⟨r, hr, h1, h2⟩ := h.R j a b ha hb
  exact ⟨r, hr, R_same h1 (fun k hk => e k (R_blk h1 hk) (fun q => R_type h1 hg (by decide) (by rw [← q]; exact hk))), R_same h2 (fun k hk => e k (R_blk h2 hk) (fun q => R_type h2 hg (by decide) (by rw [← q]; exact hk)))⟩
theorem Kp.below {W W' : World} {base : Nat} {vg vw : Value} {gs ws : List Value} (h : Kp W base vg vw gs ws) (hb : Below W.heap.size W W') : Kp W' base vg vw gs ws := by
  refine ⟨V_move h.G (fun k hk _ => hb.block k hk), V_move h.U (fun k hk _ => hb.block k hk), h.L, fun j a b ha hb2 => ?_, h.D, h.V⟩
  obtain ⟨r, hr, h1, h2⟩ := h.R j a b ha hb2
  exact ⟨r, hr, Kd.R_below h1 hb, Kd.R_below h2 hb⟩
theorem Kp_push {W W1 W2 : World} {base : Nat} {vg vw vg' vw' l m : Value} {gs ws : List Value} {r : List S44} (hK : Kp W base vg vw gs ws) (hr : r.length ≤ 4097) (hl : Kd.R k44 44 W base (fun _ => True) l r) (hm : Kd.R k44 44 W base (fun _ => True) m r)
    (hd : ∀ h ∈ gs, ∀ k, h.ownBlock = some k → l.ownBlock ≠ some k)
    (o1 : W1.ownsRow base 40 1 vg' (gs.length + 1) (gs ++ [l])) (g1 : W.grownBy W1 vg.ownBlock) (a1 : vg'.ownBlock = vg.ownBlock ∨ ∃ b, vg'.ownBlock = some b ∧ W.heap.size ≤ b)
    (o2 : W2.ownsRow base 40 1 vw' (ws.length + 1) (ws ++ [m])) (g2 : W1.grownBy W2 vw.ownBlock) (a2 : vw'.ownBlock = vw.ownBlock ∨ ∃ b, vw'.ownBlock = some b ∧ W1.heap.size ≤ b) :
    Kp W2 base vg' vw' (gs ++ [l]) (ws ++ [m]) := by
  have s1 := g1.size
  have s2 := g2.size
  have hw1 : ∀ k, k < W.heap.size → vg.ownBlock ≠ some k → W1.heap[k]? = W.heap[k]? := fun k hk h => g1.block k hk (fun e => h e.symm)
  have hw2 : ∀ k, k < W1.heap.size → vw.ownBlock ≠ some k → W2.heap[k]? = W1.heap[k]? := fun k hk h => g2.block k hk (fun e => h e.symm)
  have hrow : ∀ {v : Value} {ys : List S44}, Kd.R k44 44 W base (fun _ => True) v ys → Kd.R k44 44 W2 base (fun _ => True) v ys := fun hv =>
    R_same hv (fun k hk => (hw2 k (by have := R_blk hv hk; omega) (R_V_ne hv hK.U hk)).trans (hw1 k (R_blk hv hk) (R_V_ne hv hK.G hk)))
  have hne : ∀ k, vg'.ownBlock = some k → vw.ownBlock ≠ some k := by
    intro k hk e
    rcases a1 with h | ⟨b, h, hb⟩
    · exact hK.V k (by rw [← h]; exact hk) e
    · rw [h] at hk
      have := Option.some.inj hk
      have := V_blk hK.U e
      omega
  refine ⟨?_, by rw [List.length_append]; exact o2, by rw [List.length_append, List.length_append, hK.L]; rfl, fun j a b ha hb => ?_, fun i j a b hij ha hb k hk => ?_, fun k hk e => ?_⟩
  · rw [List.length_append]
    exact V_move o1 (fun k hk h1 => hw2 k hk (hne k h1))
  · rcases Nat.lt_or_ge j gs.length with h1 | h1
    · rw [List.getElem?_append_left h1] at ha
      rw [List.getElem?_append_left (by rw [← hK.L]; exact h1)] at hb
      obtain ⟨r', hr', h2, h3⟩ := hK.R j a b ha hb
      exact ⟨r', hr', hrow h2, hrow h3⟩
    · rw [List.getElem?_append_right h1] at ha
      rw [List.getElem?_append_right (by rw [← hK.L]; exact h1)] at hb
      rcases Nat.lt_or_ge (j - gs.length) 1 with h2 | h2
      · rw [show j - gs.length = 0 by omega] at ha
        rw [← hK.L, show j - gs.length = 0 by omega] at hb
        obtain rfl := Option.some.inj ha
        obtain rfl := Option.some.inj hb
        exact ⟨r, hr, hrow hl, hrow hm⟩
      · rw [List.getElem?_eq_none (by simp; omega)] at ha; cases ha
  · have key : ∀ (i : Nat) (a : Value), (gs ++ [l])[i]? = some a → (i < gs.length ∧ gs[i]? = some a) ∨ (i = gs.length ∧ a = l) := by
      intro i a ha
      rcases Nat.lt_or_ge i gs.length with h1 | h1
      · exact .inl ⟨h1, by rwa [List.getElem?_append_left h1] at ha⟩
      · rw [List.getElem?_append_right h1] at ha
        rcases Nat.lt_or_ge (i - gs.length) 1 with h2 | h2
        · rw [show i - gs.length = 0 by omega] at ha
          exact .inr ⟨by omega, (Option.some.inj ha).symm⟩
        · rw [List.getElem?_eq_none (by simp; omega)] at ha; cases ha
    rcases key i a ha with ⟨h1, h2⟩ | ⟨h1, h2⟩ <;> rcases key j b hb with ⟨h3, h4⟩ | ⟨h3, h4⟩
    · exact hK.D i j a b hij h2 h4 k hk
    · subst h4
      exact hd a (List.mem_of_getElem? h2) k hk
    · subst h2
      exact fun e => hd b (List.mem_of_getElem? h4) k e hk
    · omega
  · rcases a2 with h | ⟨b, h, hb⟩
    · exact hne k hk (by rw [← h]; exact e)
    · rw [h] at e
      have := Option.some.inj e
      have := V_blk o1 hk
      omega
end Go.Proofs.YthmcapdakplhdaaDoor.Pr
end

/-! ## text Prx9 -/
section
namespace Go.Proofs.YthmcapdakplhdaaDoor.Pr
open Go.RowKit Go.Proofs.YthmcapdakplhdaaDoorW.PrintWords Go.Proofs.YthmcapdakplhdaaDoorW.PrintLast Go.Proofs.YthmcapdakplhdaaDoorW.PrintMore
attribute [local go_sem] max2_int min2_int max_two min_two max_three min_three max_four min_four   -- for this text's walks alone
attribute [local go_sem high] Go.Proofs.YthmcapdakplhdaaDoor.isSome_setCell
set_option maxRecDepth 100000
set_option linter.unusedVariables false
set_option linter.unusedSimpArgs false

/-! ### stringslite_HasPrefix: function 64 -/
def stringslite_HasPrefix.f (a0 : ByteArray) (a1 : ByteArray) : Option (Bool) := if (a0.size : Int) ≥ (a1.size : Int) then (if 0 ≤ (a1.size : Int) then (if (a1.size : Int) ≤ (a0.size : Int) then (some ((a0.extract 0 ((a1.size : Int) : Int).toNat).toList == a1.toList)) else (none)) else (none)) else (some false)
set_option maxHeartbeats 8000000 in
set_option maxRecDepth 100000 in
theorem stringslite_HasPrefix.calls (a0 : ByteArray) (a1 : ByteArray) (r : Bool) (w : World) (h : stringslite_HasPrefix.f a0 a1 = some r) :
    Calls Tryd.prog 64 #[.string a0, .string a1] w fun e w' => e = .returned (.bool r) ∧ Drawn0 w w' := by
  have H : (if (a0.size : Int) ≥ (a1.size : Int) then (if 0 ≤ (a1.size : Int) then (if (a1.size : Int) ≤ (a0.size : Int) then (some ((a0.extract 0 ((a1.size : Int) : Int).toNat).toList == a1.toList)) else (none)) else (none)) else (some false)) = some r := h
  clear h
  by_cases c3 : (a0.size : Int) ≥ (a1.size : Int)
  · rw [if_pos c3] at H
    have c3b0 : decide ((a1.size : Int) ≤ (a0.size : Int)) = true := decide_eq_true c3
    have c3b1 : decide (a1.size ≤ a0.size) = true := decide_eq_true (Int.ofNat_le.mp c3)
    clear c3
    by_cases c4 : 0 ≤ (a1.size : Int)
    · rw [if_pos c4] at H
      have c4b0 := eq_true c4
      have c4b1 : decide (0 ≤ (a1.size : Int)) = true := decide_eq_true c4
      clear c4
      by_cases c5 : (a1.size : Int) ≤ (a0.size : Int)
      · rw [if_pos c5] at H
        have c5b0 := eq_true c5
        have c5b1 : decide ((a1.size : Int) ≤ (a0.size : Int)) = true := decide_eq_true c5
        clear c5
        obtain rfl := Option.some.inj H
        go_enter Tryd.func64, Tryd.ntmps64
        go_wp2
        go_ret
        exact ⟨by first | rfl | (simp; done) | (simp [*]; done) | (simp; unfold wrap64; omega) | (congr 1; (try rw [Bool.eq_iff_iff]); simp [List.isEmpty_iff]; done), by repeat (first | exact Drawn0.refl _ | apply Drawn0.step)⟩
      · rw [if_neg c5] at H
        exact absurd H (by simp)
    · rw [if_neg c4] at H
      exact absurd H (by simp)
  · rw [if_neg c3] at H
    have c3b0 : decide ((a1.size : Int) ≤ (a0.size : Int)) = false := decide_eq_false c3
    have c3b1 : decide (a1.size ≤ a0.size) = false := decide_eq_false (fun h => c3 (Int.ofNat_le.mpr h))
    clear c3
    obtain rfl := Option.some.inj H
    go_enter Tryd.func64, Tryd.ntmps64
    go_wp2
    go_ret
    exact ⟨by first | rfl | (simp; done) | (simp [*]; done) | (simp; unfold wrap64; omega) | (congr 1; (try rw [Bool.eq_iff_iff]); simp [List.isEmpty_iff]; done), by repeat (first | exact Drawn0.refl _ | apply Drawn0.step)⟩

/-! ### strings_HasPrefix: function 45 -/
def strings_HasPrefix.f (a0 : ByteArray) (a1 : ByteArray) : Option (Bool) := (stringslite_HasPrefix.f a0 a1).bind fun t242 => (some t242)
set_option maxHeartbeats 8000000 in
set_option maxRecDepth 100000 in
theorem strings_HasPrefix.calls (a0 : ByteArray) (a1 : ByteArray) (r : Bool) (w : World) (h : strings_HasPrefix.f a0 a1 = some r) :
    Calls Tryd.prog 45 #[.string a0, .string a1] w fun e w' => e = .returned (.bool r) ∧ Drawn0 w w' := by
  have H : ((stringslite_HasPrefix.f a0 a1).bind fun t242 => (some t242)) = some r := h
  clear h
  replace H := Option.bind_eq_some_iff.mp H
  obtain ⟨t242, A30, H⟩ := H
  replace H : (some t242) = some r := H
  have A3 := Aside0.mk A30
  clear A30
  obtain rfl := Option.some.inj H
  go_enter Tryd.func45, Tryd.ntmps45
  go_wp2_with (first | ((with_reducible refine gate_callee (f := 64) rfl ?_); refine goesT (some 7) Tryd.func64 #[.string a0, .string a1] ?_; (with_reducible refine (stringslite_HasPrefix.calls a0 a1 t242 _ A3.out).mono ?_); rintro e w' ⟨rfl, ⟨nd, rfl⟩⟩; refine ⟨_, rfl, ?_⟩))
  go_ret
  exact ⟨by first | rfl | (simp; done) | (simp [*]; done) | (simp; unfold wrap64; omega) | (congr 1; (try rw [Bool.eq_iff_iff]); simp [List.isEmpty_iff]; done), by repeat (first | exact Drawn0.refl _ | apply Drawn0.step)⟩

/-! ### token_signAt: function 51 -/
mutual
def token_signAt.j0 : Nat → ByteArray → Int → Int → Bool → Option (Int)
  | 0, _, _, _, _ => none
  | k + 1, x0, x3, x7, x8 => if x8 = true then (if 1 ≤ (x0.size : Int) then ((strings_HasPrefix.f (x0.extract 1 x0.size) (⟨#[61]⟩ : ByteArray)).bind fun t244 => (if t244 = true then (some (wrap64 ((wrap64 (x3 + 1)) + 1))) else (some (wrap64 (x3 + 1))))) else (none)) else (if x7 = 40 then (token_signAt.j1 k x0 x3 x7 (x7 == 40)) else (if x7 = 41 then (token_signAt.j1 k x0 x3 x7 (x7 == 41)) else (if x7 = 91 then (token_signAt.j1 k x0 x3 x7 (x7 == 91)) else (if x7 = 93 then (token_signAt.j1 k x0 x3 x7 (x7 == 93)) else (if x7 = 123 then (token_signAt.j1 k x0 x3 x7 (x7 == 123)) else (if x7 = 125 then (token_signAt.j1 k x0 x3 x7 (x7 == 125)) else (if x7 = 44 then (token_signAt.j1 k x0 x3 x7 (x7 == 44)) else (if x7 = 43 then (token_signAt.j1 k x0 x3 x7 (x7 == 43)) else (if x7 = 45 then (token_signAt.j1 k x0 x3 x7 (x7 == 45)) else (if x7 = 42 then (token_signAt.j1 k x0 x3 x7 (x7 == 42)) else (token_signAt.j1 k x0 x3 x7 (x7 == 61))))))))))))
def token_signAt.j1 : Nat → ByteArray → Int → Int → Bool → Option (Int)
  | 0, _, _, _, _ => none
  | k + 1, x0, x3, x7, x12 => if x12 = true then (some (wrap64 (x3 + 1))) else (if x7 = 46 then (if 1 ≤ (x0.size : Int) then ((strings_HasPrefix.f (x0.extract 1 x0.size) (⟨#[46]⟩ : ByteArray)).bind fun t243 => (if t243 = true then (some 2) else (some 1))) else (none)) else (some x3))
end
def token_signAt.f (k : Nat) (a0 : ByteArray) : Option (Int) := if a0.toList = ([] : List UInt8) then (some 0) else (if 0 < (a0.size : Int) then (if (bt a0 0) = 33 then (token_signAt.j0 k a0 0 (bt a0 0) ((bt a0 0) == 33)) else (if (bt a0 0) = 60 then (token_signAt.j0 k a0 0 (bt a0 0) ((bt a0 0) == 60)) else (token_signAt.j0 k a0 0 (bt a0 0) ((bt a0 0) == 62)))) else (none))
set_option maxRecDepth 100000 in
theorem token_signAt.j0_zero : ∀ y0 y1 y2 y3, token_signAt.j0 0 y0 y1 y2 y3 = none := fun _ _ _ _ => rfl
set_option maxRecDepth 100000 in
theorem token_signAt.j1_zero : ∀ y0 y1 y2 y3, token_signAt.j1 0 y0 y1 y2 y3 = none := fun _ _ _ _ => rfl
set_option maxRecDepth 100000 in
theorem token_signAt.mono_l : ∀ k, (∀ y0 y1 y2 y3, LeO (token_signAt.j0 k y0 y1 y2 y3) (token_signAt.j0 (k + 1) y0 y1 y2 y3)) ∧ (∀ y0 y1 y2 y3, LeO (token_signAt.j1 k y0 y1 y2 y3) (token_signAt.j1 (k + 1) y0 y1 y2 y3))
  | 0 => ⟨fun _ _ _ _ r h => by (unfold token_signAt.j0 at h; cases h), fun _ _ _ _ r h => by (unfold token_signAt.j1 at h; cases h)⟩
  | k + 1 => by
    obtain ⟨ih0, ih1⟩ := token_signAt.mono_l k
    refine ⟨?_, ?_⟩
    · intro y0 y1 y2 y3
      unfold token_signAt.j0
      repeat' first
      | (with_reducible exact ih0 _ _ _ _)
      | (with_reducible exact ih1 _ _ _ _)
      | (with_reducible exact LeO.refl _)
      | (with_reducible exact LeO.none _)
      | (with_reducible refine LeO.ite ?_ ?_)
      | (with_reducible refine LeO.bind ?_ (fun _ => ?_))
      | exact ih0 _ _ _ _
      | exact ih1 _ _ _ _
      | exact LeO.none _
      | refine LeO.ite ?_ ?_
      | refine LeO.bind ?_ (fun _ => ?_)
    · intro y0 y1 y2 y3
      unfold token_signAt.j1
      repeat' first
      | (with_reducible exact ih0 _ _ _ _)
      | (with_reducible exact ih1 _ _ _ _)
      | (with_reducible exact LeO.refl _)
      | (with_reducible exact LeO.none _)
      | (with_reducible refine LeO.ite ?_ ?_)
      | (with_reducible refine LeO.bind ?_ (fun _ => ?_))
      | exact ih0 _ _ _ _
      | exact ih1 _ _ _ _
      | exact LeO.none _
      | refine LeO.ite ?_ ?_
      | refine LeO.bind ?_ (fun _ => ?_)
set_option maxRecDepth 100000 in
theorem token_signAt.mono : ∀ a0 k, LeO (token_signAt.f k a0) (token_signAt.f (k + 1) a0) := by
  intro a0 k
  obtain ⟨ih0, ih1⟩ := token_signAt.mono_l k
  unfold token_signAt.f
  repeat' first
      | (with_reducible exact ih0 _ _ _ _)
      | (with_reducible exact ih1 _ _ _ _)
      | (with_reducible exact LeO.refl _)
      | (with_reducible exact LeO.none _)
      | (with_reducible refine LeO.ite ?_ ?_)
      | (with_reducible refine LeO.bind ?_ (fun _ => ?_))
      | exact ih0 _ _ _ _
      | exact ih1 _ _ _ _
      | exact LeO.none _
      | refine LeO.ite ?_ ?_
      | refine LeO.bind ?_ (fun _ => ?_)
set_option maxHeartbeats 8000000 in
set_option maxRecDepth 100000 in
theorem token_signAt.calls (k : Nat) (a0 : ByteArray) (r : Int) (w : World) (h : token_signAt.f k a0 = some r) :
    Calls Tryd.prog 51 #[.string a0] w fun e w' => e = .returned (.int .i64 r) ∧ Drawn0 w w' := by
  have H : (if a0.toList = ([] : List UInt8) then (some 0) else (if 0 < (a0.size : Int) then (if (bt a0 0) = 33 then (token_signAt.j0 k a0 0 (bt a0 0) ((bt a0 0) == 33)) else (if (bt a0 0) = 60 then (token_signAt.j0 k a0 0 (bt a0 0) ((bt a0 0) == 60)) else (token_signAt.j0 k a0 0 (bt a0 0) ((bt a0 0) == 62)))) else (none))) = some r := h
  clear h
  by_cases c2 : a0.toList = ([] : List UInt8)
  · rw [if_pos c2] at H
    have c2b0 : (a0.toList == ([] : List UInt8)) = true := beq_iff_eq.mpr c2
    have c2b1 : (a0.toList != ([] : List UInt8)) = false := bne_eq_false_iff_eq.mpr c2
    clear c2
    obtain rfl := Option.some.inj H
    go_enter Tryd.func51, Tryd.ntmps51
    go_wp2
    go_ret
    exact ⟨by first | rfl | (simp; done) | (simp [*]; done) | (simp; unfold wrap64; omega) | (congr 1; (try rw [Bool.eq_iff_iff]); simp [List.isEmpty_iff]; done), by repeat (first | exact Drawn0.refl _ | apply Drawn0.step)⟩
  · rw [if_neg c2] at H
    have c2b0 : (a0.toList == ([] : List UInt8)) = false := beq_eq_false_iff_ne.mpr c2
    have c2b1 : (a0.toList != ([] : List UInt8)) = true := bne_iff_ne.mpr c2
    by_cases c3 : 0 < (a0.size : Int)
    · rw [if_pos c3] at H
      have c3b0 : decide (0 < (a0.size : Int)) = true := decide_eq_true c3
      have c3b1 : decide (0 < a0.size) = true := decide_eq_true (by omega)
      clear c3
      have HC5 := Aside0.mk H
      clear H
      have p4 : 0 ≤ (0 : Int) := (by omega)
      have q4 : 0 < a0.size := (by have : (0 : Int) < (a0.size : Int) := of_decide_eq_true (by first | (with_reducible assumption) | assumption); omega)
      have hx4 : ∀ h : 0 < a0.size, ((a0[0]'h).toNat : Int) = bt a0 0 := bt_at a0 0
      clear p4
      have qi4 : (0 < (a0.size : Int)) = True := eq_true (of_decide_eq_true (by first | (with_reducible assumption) | assumption))
      replace q4 := eq_true q4
      go_enter Tryd.func51, Tryd.ntmps51
      go_upto_if 8 with (fail)
      go_cut [8] (fun v8 wc => ∃ (kq : Nat) (x8_4 : Bool), v8 = .bool x8_4 ∧ Aside0 (token_signAt.j0 kq a0 0 (bt a0 0) x8_4 = some r) ∧ Aside0 (kq ≤ k) ∧ Drawn0 w wc)
      case first =>
        have H := HC5.out
        clear HC5
        by_cases c6 : (bt a0 0) = 33
        · rw [if_pos c6] at H
          have c6b0 : ((bt a0 0) == 33) = true := beq_iff_eq.mpr c6
          have c6b1 : ((bt a0 0) != 33) = false := bne_eq_false_iff_eq.mpr c6
          clear c6
          (first | rw [c6b0] | (simp only [i64_w, i32_w, IntKind.wrap_u8, IntKind.wrap_u16, IntKind.wrap_u32]; rw [c6b0]) | skip)
          have H' := Aside0.mk H
          clear H
          go_wp2
          go_meet
          case rel => exact ⟨_, (((bt a0 0) == 33)), (by first | rfl | (simp; done) | (simp [*]; done) | (simp; unfold wrap64; omega) | (congr 1; (try rw [Bool.eq_iff_iff]); simp [List.isEmpty_iff]; done)), H', ⟨by first | omega | exact Nat.le_refl _⟩, by repeat (first | exact Drawn0.refl _ | apply Drawn0.step)⟩
        · rw [if_neg c6] at H
          have c6b0 : ((bt a0 0) == 33) = false := beq_eq_false_iff_ne.mpr c6
          have c6b1 : ((bt a0 0) != 33) = true := bne_iff_ne.mpr c6
          (first | rw [c6b0] | (simp only [i64_w, i32_w, IntKind.wrap_u8, IntKind.wrap_u16, IntKind.wrap_u32]; rw [c6b0]) | skip)
          by_cases c7 : (bt a0 0) = 60
          · rw [if_pos c7] at H
            have c7b0 : ((bt a0 0) == 60) = true := beq_iff_eq.mpr c7
            have c7b1 : ((bt a0 0) != 60) = false := bne_eq_false_iff_eq.mpr c7
            clear c7
            have H' := Aside0.mk H
            clear H
            go_wp2
            go_meet
            case rel => exact ⟨_, (((bt a0 0) == 60)), (by first | rfl | (simp; done) | (simp [*]; done) | (simp; unfold wrap64; omega) | (congr 1; (try rw [Bool.eq_iff_iff]); simp [List.isEmpty_iff]; done)), H', ⟨by first | omega | exact Nat.le_refl _⟩, by repeat (first | exact Drawn0.refl _ | apply Drawn0.step)⟩
          · rw [if_neg c7] at H
            have c7b0 : ((bt a0 0) == 60) = false := beq_eq_false_iff_ne.mpr c7
            have c7b1 : ((bt a0 0) != 60) = true := bne_iff_ne.mpr c7
            have H' := Aside0.mk H
            clear H
            go_wp2
            go_meet
            case rel => exact ⟨_, (((bt a0 0) == 62)), (by first | rfl | (simp; done) | (simp [*]; done) | (simp; unfold wrap64; omega) | (congr 1; (try rw [Bool.eq_iff_iff]); simp [List.isEmpty_iff]; done)), H', ⟨by first | omega | exact Nat.le_refl _⟩, by repeat (first | exact Drawn0.refl _ | apply Drawn0.step)⟩
      case rest =>
        clear HC5
        try clear c2
        try clear c2b0
        try clear c2b1
        try clear p2
        try clear c3
        try clear c3b0
        try clear c3b1
        try clear p4
        try clear q4
        try clear hx4
        try clear qi4
        try clear c5
        try clear c6
        try clear c6b0
        try clear c6b1
        try clear c7
        try clear c7b0
        try clear c7b1
        try clear p4
        try clear q4
        obtain ⟨kq, x8_4, rfl, HA, HJ4, ⟨mc4, rfl⟩⟩ := hcut
        cases kq with
        | zero => (have HA2 := HA.out; clear HA; revert HA2; rw [token_signAt.j0_zero]; intro h_; cases h_)
        | succ kj4 =>
          have H := HA.out
          clear HA
          simp only [token_signAt.j0] at H
          by_cases c8 : x8_4 = true
          · subst c8
            have H1 : (if 1 ≤ (a0.size : Int) then ((strings_HasPrefix.f (a0.extract 1 a0.size) (⟨#[61]⟩ : ByteArray)).bind fun t244 => (if t244 = true then (some (wrap64 ((wrap64 (0 + 1)) + 1))) else (some (wrap64 (0 + 1))))) else (none)) = some r := by rw [if_pos rfl] at H; exact H
            clear H
            have H := H1
            clear H1
            by_cases c9 : 1 ≤ (a0.size : Int)
            · rw [if_pos c9] at H
              have c9b0 := eq_true c9
              have c9b1 : decide (1 ≤ (a0.size : Int)) = true := decide_eq_true c9
              clear c9
              replace H := Option.bind_eq_some_iff.mp H
              obtain ⟨t244, A100, H⟩ := H
              replace H : (if t244 = true then (some (wrap64 ((wrap64 (0 + 1)) + 1))) else (some (wrap64 (0 + 1)))) = some r := H
              have A10 := Aside0.mk A100
              clear A100
              by_cases c11 : t244 = true
              · subst c11
                have H1 : (some (wrap64 ((wrap64 (0 + 1)) + 1))) = some r := by rw [if_pos rfl] at H; exact H
                clear H
                have H := H1
                clear H1
                obtain rfl := Option.some.inj H
                go_wp2_with (first | ((with_reducible refine gate_callee (f := 45) rfl ?_); refine goesT (some 28) Tryd.func45 #[.string (a0.extract 1 a0.size), .string (⟨#[61]⟩ : ByteArray)] ?_; (with_reducible refine (strings_HasPrefix.calls (a0.extract 1 a0.size) (⟨#[61]⟩ : ByteArray) true _ A10.out).mono ?_); rintro e w' ⟨rfl, ⟨nd, rfl⟩⟩; refine ⟨_, rfl, ?_⟩))
                go_ret
                exact ⟨by first | rfl | (simp; done) | (simp [*]; done) | (simp; unfold wrap64; omega) | (congr 1; (try rw [Bool.eq_iff_iff]); simp [List.isEmpty_iff]; done), by repeat (first | exact Drawn0.refl _ | apply Drawn0.step)⟩
              · replace c11 := Bool.eq_false_iff.mpr c11
                subst c11
                have H1 : (some (wrap64 (0 + 1))) = some r := by rw [if_neg (show ¬ (false = true) by decide)] at H; exact H
                clear H
                have H := H1
                clear H1
                obtain rfl := Option.some.inj H
                go_wp2_with (first | ((with_reducible refine gate_callee (f := 45) rfl ?_); refine goesT (some 28) Tryd.func45 #[.string (a0.extract 1 a0.size), .string (⟨#[61]⟩ : ByteArray)] ?_; (with_reducible refine (strings_HasPrefix.calls (a0.extract 1 a0.size) (⟨#[61]⟩ : ByteArray) false _ A10.out).mono ?_); rintro e w' ⟨rfl, ⟨nd, rfl⟩⟩; refine ⟨_, rfl, ?_⟩))
                go_ret
                exact ⟨by first | rfl | (simp; done) | (simp [*]; done) | (simp; unfold wrap64; omega) | (congr 1; (try rw [Bool.eq_iff_iff]); simp [List.isEmpty_iff]; done), by repeat (first | exact Drawn0.refl _ | apply Drawn0.step)⟩
            · rw [if_neg c9] at H
              exact absurd H (by simp)
          · replace c8 := Bool.eq_false_iff.mpr c8
            subst c8
            have H1 : (if (bt a0 0) = 40 then (token_signAt.j1 kj4 a0 0 (bt a0 0) ((bt a0 0) == 40)) else (if (bt a0 0) = 41 then (token_signAt.j1 kj4 a0 0 (bt a0 0) ((bt a0 0) == 41)) else (if (bt a0 0) = 91 then (token_signAt.j1 kj4 a0 0 (bt a0 0) ((bt a0 0) == 91)) else (if (bt a0 0) = 93 then (token_signAt.j1 kj4 a0 0 (bt a0 0) ((bt a0 0) == 93)) else (if (bt a0 0) = 123 then (token_signAt.j1 kj4 a0 0 (bt a0 0) ((bt a0 0) == 123)) else (if (bt a0 0) = 125 then (token_signAt.j1 kj4 a0 0 (bt a0 0) ((bt a0 0) == 125)) else (if (bt a0 0) = 44 then (token_signAt.j1 kj4 a0 0 (bt a0 0) ((bt a0 0) == 44)) else (if (bt a0 0) = 43 then (token_signAt.j1 kj4 a0 0 (bt a0 0) ((bt a0 0) == 43)) else (if (bt a0 0) = 45 then (token_signAt.j1 kj4 a0 0 (bt a0 0) ((bt a0 0) == 45)) else (if (bt a0 0) = 42 then (token_signAt.j1 kj4 a0 0 (bt a0 0) ((bt a0 0) == 42)) else (token_signAt.j1 kj4 a0 0 (bt a0 0) ((bt a0 0) == 61)))))))))))) = some r := by rw [if_neg (show ¬ (false = true) by decide)] at H; exact H
            clear H
            have H := H1
            clear H1
            have HC12 := Aside0.mk H
            clear H
            go_upto_if 12 with (fail)
            go_cut [12] (fun v12 wc => ∃ (kq : Nat) (x12_11 : Bool), v12 = .bool x12_11 ∧ Aside0 (token_signAt.j1 kq a0 0 (bt a0 0) x12_11 = some r) ∧ Aside0 (kq ≤ kj4) ∧ Drawn0 w wc)
            case first =>
              have H := HC12.out
              clear HC12
              by_cases c13 : (bt a0 0) = 40
              · rw [if_pos c13] at H
                have c13b0 : ((bt a0 0) == 40) = true := beq_iff_eq.mpr c13
                have c13b1 : ((bt a0 0) != 40) = false := bne_eq_false_iff_eq.mpr c13
                clear c13
                (first | rw [c13b0] | (simp only [i64_w, i32_w, IntKind.wrap_u8, IntKind.wrap_u16, IntKind.wrap_u32]; rw [c13b0]) | skip)
                have H' := Aside0.mk H
                clear H
                go_wp2
                go_meet
                case rel => exact ⟨_, (((bt a0 0) == 40)), (by first | rfl | (simp; done) | (simp [*]; done) | (simp; unfold wrap64; omega) | (congr 1; (try rw [Bool.eq_iff_iff]); simp [List.isEmpty_iff]; done)), H', ⟨by have := HJ4.out; first | omega | exact Nat.le_refl _⟩, by repeat (first | exact Drawn0.refl _ | apply Drawn0.step)⟩
              · rw [if_neg c13] at H
                have c13b0 : ((bt a0 0) == 40) = false := beq_eq_false_iff_ne.mpr c13
                have c13b1 : ((bt a0 0) != 40) = true := bne_iff_ne.mpr c13
                (first | rw [c13b0] | (simp only [i64_w, i32_w, IntKind.wrap_u8, IntKind.wrap_u16, IntKind.wrap_u32]; rw [c13b0]) | skip)
                by_cases c14 : (bt a0 0) = 41
                · rw [if_pos c14] at H
                  have c14b0 : ((bt a0 0) == 41) = true := beq_iff_eq.mpr c14
                  have c14b1 : ((bt a0 0) != 41) = false := bne_eq_false_iff_eq.mpr c14
                  clear c14
                  have H' := Aside0.mk H
                  clear H
                  go_wp2
                  go_meet
                  case rel => exact ⟨_, (((bt a0 0) == 41)), (by first | rfl | (simp; done) | (simp [*]; done) | (simp; unfold wrap64; omega) | (congr 1; (try rw [Bool.eq_iff_iff]); simp [List.isEmpty_iff]; done)), H', ⟨by have := HJ4.out; first | omega | exact Nat.le_refl _⟩, by repeat (first | exact Drawn0.refl _ | apply Drawn0.step)⟩
                · rw [if_neg c14] at H
                  have c14b0 : ((bt a0 0) == 41) = false := beq_eq_false_iff_ne.mpr c14
                  have c14b1 : ((bt a0 0) != 41) = true := bne_iff_ne.mpr c14
                  by_cases c15 : (bt a0 0) = 91
                  · rw [if_pos c15] at H
                    have c15b0 : ((bt a0 0) == 91) = true := beq_iff_eq.mpr c15
                    have c15b1 : ((bt a0 0) != 91) = false := bne_eq_false_iff_eq.mpr c15
                    clear c15
                    have H' := Aside0.mk H
                    clear H
                    go_wp2
                    go_meet
                    case rel => exact ⟨_, (((bt a0 0) == 91)), (by first | rfl | (simp; done) | (simp [*]; done) | (simp; unfold wrap64; omega) | (congr 1; (try rw [Bool.eq_iff_iff]); simp [List.isEmpty_iff]; done)), H', ⟨by have := HJ4.out; first | omega | exact Nat.le_refl _⟩, by repeat (first | exact Drawn0.refl _ | apply Drawn0.step)⟩
                  · rw [if_neg c15] at H
                    have c15b0 : ((bt a0 0) == 91) = false := beq_eq_false_iff_ne.mpr c15
                    have c15b1 : ((bt a0 0) != 91) = true := bne_iff_ne.mpr c15
                    by_cases c16 : (bt a0 0) = 93
                    · rw [if_pos c16] at H
                      have c16b0 : ((bt a0 0) == 93) = true := beq_iff_eq.mpr c16
                      have c16b1 : ((bt a0 0) != 93) = false := bne_eq_false_iff_eq.mpr c16
                      clear c16
                      have H' := Aside0.mk H
                      clear H
                      go_wp2
                      go_meet
                      case rel => exact ⟨_, (((bt a0 0) == 93)), (by first | rfl | (simp; done) | (simp [*]; done) | (simp; unfold wrap64; omega) | (congr 1; (try rw [Bool.eq_iff_iff]); simp [List.isEmpty_iff]; done)), H', ⟨by have := HJ4.out; first | omega | exact Nat.le_refl _⟩, by repeat (first | exact Drawn0.refl _ | apply Drawn0.step)⟩
                    · rw [if_neg c16] at H
                      have c16b0 : ((bt a0 0) == 93) = false := beq_eq_false_iff_ne.mpr c16
                      have c16b1 : ((bt a0 0) != 93) = true := bne_iff_ne.mpr c16
                      by_cases c17 : (bt a0 0) = 123
                      · rw [if_pos c17] at H
                        have c17b0 : ((bt a0 0) == 123) = true := beq_iff_eq.mpr c17
                        have c17b1 : ((bt a0 0) != 123) = false := bne_eq_false_iff_eq.mpr c17
                        clear c17
                        have H' := Aside0.mk H
                        clear H
                        go_wp2
                        go_meet
                        case rel => exact ⟨_, (((bt a0 0) == 123)), (by first | rfl | (simp; done) | (simp [*]; done) | (simp; unfold wrap64; omega) | (congr 1; (try rw [Bool.eq_iff_iff]); simp [List.isEmpty_iff]; done)), H', ⟨by have := HJ4.out; first | omega | exact Nat.le_refl _⟩, by repeat (first | exact Drawn0.refl _ | apply Drawn0.step)⟩
                      · rw [if_neg c17] at H
                        have c17b0 : ((bt a0 0) == 123) = false := beq_eq_false_iff_ne.mpr c17
                        have c17b1 : ((bt a0 0) != 123) = true := bne_iff_ne.mpr c17
                        by_cases c18 : (bt a0 0) = 125
                        · rw [if_pos c18] at H
                          have c18b0 : ((bt a0 0) == 125) = true := beq_iff_eq.mpr c18
                          have c18b1 : ((bt a0 0) != 125) = false := bne_eq_false_iff_eq.mpr c18
                          clear c18
                          have H' := Aside0.mk H
                          clear H
                          go_wp2
                          go_meet
                          case rel => exact ⟨_, (((bt a0 0) == 125)), (by first | rfl | (simp; done) | (simp [*]; done) | (simp; unfold wrap64; omega) | (congr 1; (try rw [Bool.eq_iff_iff]); simp [List.isEmpty_iff]; done)), H', ⟨by have := HJ4.out; first | omega | exact Nat.le_refl _⟩, by repeat (first | exact Drawn0.refl _ | apply Drawn0.step)⟩
                        · rw [if_neg c18] at H
                          have c18b0 : ((bt a0 0) == 125) = false := beq_eq_false_iff_ne.mpr c18
                          have c18b1 : ((bt a0 0) != 125) = true := bne_iff_ne.mpr c18
                          by_cases c19 : (bt a0 0) = 44
                          · rw [if_pos c19] at H
                            have c19b0 : ((bt a0 0) == 44) = true := beq_iff_eq.mpr c19
                            have c19b1 : ((bt a0 0) != 44) = false := bne_eq_false_iff_eq.mpr c19
                            clear c19
                            have H' := Aside0.mk H
                            clear H
                            go_wp2
                            go_meet
                            case rel => exact ⟨_, (((bt a0 0) == 44)), (by first | rfl | (simp; done) | (simp [*]; done) | (simp; unfold wrap64; omega) | (congr 1; (try rw [Bool.eq_iff_iff]); simp [List.isEmpty_iff]; done)), H', ⟨by have := HJ4.out; first | omega | exact Nat.le_refl _⟩, by repeat (first | exact Drawn0.refl _ | apply Drawn0.step)⟩
                          · rw [if_neg c19] at H
                            have c19b0 : ((bt a0 0) == 44) = false := beq_eq_false_iff_ne.mpr c19
                            have c19b1 : ((bt a0 0) != 44) = true := bne_iff_ne.mpr c19
                            by_cases c20 : (bt a0 0) = 43
                            · rw [if_pos c20] at H
                              have c20b0 : ((bt a0 0) == 43) = true := beq_iff_eq.mpr c20
                              have c20b1 : ((bt a0 0) != 43) = false := bne_eq_false_iff_eq.mpr c20
                              clear c20
                              have H' := Aside0.mk H
                              clear H
                              go_wp2
                              go_meet
                              case rel => exact ⟨_, (((bt a0 0) == 43)), (by first | rfl | (simp; done) | (simp [*]; done) | (simp; unfold wrap64; omega) | (congr 1; (try rw [Bool.eq_iff_iff]); simp [List.isEmpty_iff]; done)), H', ⟨by have := HJ4.out; first | omega | exact Nat.le_refl _⟩, by repeat (first | exact Drawn0.refl _ | apply Drawn0.step)⟩
                            · rw [if_neg c20] at H
                              have c20b0 : ((bt a0 0) == 43) = false := beq_eq_false_iff_ne.mpr c20
                              have c20b1 : ((bt a0 0) != 43) = true := bne_iff_ne.mpr c20
                              by_cases c21 : (bt a0 0) = 45
                              · rw [if_pos c21] at H
                                have c21b0 : ((bt a0 0) == 45) = true := beq_iff_eq.mpr c21
                                have c21b1 : ((bt a0 0) != 45) = false := bne_eq_false_iff_eq.mpr c21
                                clear c21
                                have H' := Aside0.mk H
                                clear H
                                go_wp2
                                go_meet
                                case rel => exact ⟨_, (((bt a0 0) == 45)), (by first | rfl | (simp; done) | (simp [*]; done) | (simp; unfold wrap64; omega) | (congr 1; (try rw [Bool.eq_iff_iff]); simp [List.isEmpty_iff]; done)), H', ⟨by have := HJ4.out; first | omega | exact Nat.le_refl _⟩, by repeat (first | exact Drawn0.refl _ | apply Drawn0.step)⟩
                              · rw [if_neg c21] at H
                                have c21b0 : ((bt a0 0) == 45) = false := beq_eq_false_iff_ne.mpr c21
                                have c21b1 : ((bt a0 0) != 45) = true := bne_iff_ne.mpr c21
                                by_cases c22 : (bt a0 0) = 42
                                · rw [if_pos c22] at H
                                  have c22b0 : ((bt a0 0) == 42) = true := beq_iff_eq.mpr c22
                                  have c22b1 : ((bt a0 0) != 42) = false := bne_eq_false_iff_eq.mpr c22
                                  clear c22
                                  have H' := Aside0.mk H
                                  clear H
                                  go_wp2
                                  go_meet
                                  case rel => exact ⟨_, (((bt a0 0) == 42)), (by first | rfl | (simp; done) | (simp [*]; done) | (simp; unfold wrap64; omega) | (congr 1; (try rw [Bool.eq_iff_iff]); simp [List.isEmpty_iff]; done)), H', ⟨by have := HJ4.out; first | omega | exact Nat.le_refl _⟩, by repeat (first | exact Drawn0.refl _ | apply Drawn0.step)⟩
                                · rw [if_neg c22] at H
                                  have c22b0 : ((bt a0 0) == 42) = false := beq_eq_false_iff_ne.mpr c22
                                  have c22b1 : ((bt a0 0) != 42) = true := bne_iff_ne.mpr c22
                                  have H' := Aside0.mk H
                                  clear H
                                  go_wp2
                                  go_meet
                                  case rel => exact ⟨_, (((bt a0 0) == 61)), (by first | rfl | (simp; done) | (simp [*]; done) | (simp; unfold wrap64; omega) | (congr 1; (try rw [Bool.eq_iff_iff]); simp [List.isEmpty_iff]; done)), H', ⟨by have := HJ4.out; first | omega | exact Nat.le_refl _⟩, by repeat (first | exact Drawn0.refl _ | apply Drawn0.step)⟩
            case rest =>
              clear HC12
              try clear c1
              try clear c2
              try clear c2b0
              try clear c2b1
              try clear p2
              try clear c3
              try clear c3b0
              try clear c3b1
              try clear c4
              try clear p4
              try clear q4
              try clear hx4
              try clear qi4
              try clear c5
              try clear c6
              try clear c6b0
              try clear c6b1
              try clear p6
              try clear c7
              try clear c7b0
              try clear c7b1
              try clear c8
              try clear c9
              try clear c9b0
              try clear c9b1
              try clear c11
              try clear c13
              try clear c13b0
              try clear c13b1
              try clear c14
              try clear c14b0
              try clear c14b1
              try clear c15
              try clear c15b0
              try clear c15b1
              try clear c16
              try clear c16b0
              try clear c16b1
              try clear c17
              try clear c17b0
              try clear c17b1
              try clear c18
              try clear c18b0
              try clear c18b1
              try clear c19
              try clear c19b0
              try clear c19b1
              try clear c20
              try clear c20b0
              try clear c20b1
              try clear c21
              try clear c21b0
              try clear c21b1
              try clear c22
              try clear c22b0
              try clear c22b1
              try clear p2
              try clear p4
              try clear q4
              obtain ⟨kq, x12_11, rfl, HA, HJ11, ⟨mc11, rfl⟩⟩ := hcut
              cases kq with
              | zero => (have HA2 := HA.out; clear HA; revert HA2; rw [token_signAt.j1_zero]; intro h_; cases h_)
              | succ kj11 =>
                have H := HA.out
                clear HA
                simp only [token_signAt.j1] at H
                by_cases c23 : x12_11 = true
                · subst c23
                  have H1 : (some (wrap64 (0 + 1))) = some r := by rw [if_pos rfl] at H; exact H
                  clear H
                  have H := H1
                  clear H1
                  obtain rfl := Option.some.inj H
                  go_wp2
                  go_ret
                  exact ⟨by first | rfl | (simp; done) | (simp [*]; done) | (simp; unfold wrap64; omega) | (congr 1; (try rw [Bool.eq_iff_iff]); simp [List.isEmpty_iff]; done), by repeat (first | exact Drawn0.refl _ | apply Drawn0.step)⟩
                · replace c23 := Bool.eq_false_iff.mpr c23
                  subst c23
                  have H1 : (if (bt a0 0) = 46 then (if 1 ≤ (a0.size : Int) then ((strings_HasPrefix.f (a0.extract 1 a0.size) (⟨#[46]⟩ : ByteArray)).bind fun t243 => (if t243 = true then (some 2) else (some 1))) else (none)) else (some 0)) = some r := by rw [if_neg (show ¬ (false = true) by decide)] at H; exact H
                  clear H
                  have H := H1
                  clear H1
                  by_cases c24 : (bt a0 0) = 46
                  · rw [if_pos c24] at H
                    have c24b0 : ((bt a0 0) == 46) = true := beq_iff_eq.mpr c24
                    have c24b1 : ((bt a0 0) != 46) = false := bne_eq_false_iff_eq.mpr c24
                    clear c24
                    by_cases c25 : 1 ≤ (a0.size : Int)
                    · rw [if_pos c25] at H
                      have c25b0 := eq_true c25
                      have c25b1 : decide (1 ≤ (a0.size : Int)) = true := decide_eq_true c25
                      clear c25
                      replace H := Option.bind_eq_some_iff.mp H
                      obtain ⟨t243, A260, H⟩ := H
                      replace H : (if t243 = true then (some 2) else (some 1)) = some r := H
                      have A26 := Aside0.mk A260
                      clear A260
                      by_cases c27 : t243 = true
                      · subst c27
                        have H1 : (some 2) = some r := by rw [if_pos rfl] at H; exact H
                        clear H
                        have H := H1
                        clear H1
                        obtain rfl := Option.some.inj H
                        go_wp2_with (first | ((with_reducible refine gate_callee (f := 45) rfl ?_); refine goesT (some 35) Tryd.func45 #[.string (a0.extract 1 a0.size), .string (⟨#[46]⟩ : ByteArray)] ?_; (with_reducible refine (strings_HasPrefix.calls (a0.extract 1 a0.size) (⟨#[46]⟩ : ByteArray) true _ A26.out).mono ?_); rintro e w' ⟨rfl, ⟨nd, rfl⟩⟩; refine ⟨_, rfl, ?_⟩))
                        go_ret
                        exact ⟨by first | rfl | (simp; done) | (simp [*]; done) | (simp; unfold wrap64; omega) | (congr 1; (try rw [Bool.eq_iff_iff]); simp [List.isEmpty_iff]; done), by repeat (first | exact Drawn0.refl _ | apply Drawn0.step)⟩
                      · replace c27 := Bool.eq_false_iff.mpr c27
                        subst c27
                        have H1 : (some 1) = some r := by rw [if_neg (show ¬ (false = true) by decide)] at H; exact H
                        clear H
                        have H := H1
                        clear H1
                        obtain rfl := Option.some.inj H
                        go_wp2_with (first | ((with_reducible refine gate_callee (f := 45) rfl ?_); refine goesT (some 35) Tryd.func45 #[.string (a0.extract 1 a0.size), .string (⟨#[46]⟩ : ByteArray)] ?_; (with_reducible refine (strings_HasPrefix.calls (a0.extract 1 a0.size) (⟨#[46]⟩ : ByteArray) false _ A26.out).mono ?_); rintro e w' ⟨rfl, ⟨nd, rfl⟩⟩; refine ⟨_, rfl, ?_⟩))
                        go_ret
                        exact ⟨by first | rfl | (simp; done) | (simp [*]; done) | (simp; unfold wrap64; omega) | (congr 1; (try rw [Bool.eq_iff_iff]); simp [List.isEmpty_iff]; done), by repeat (first | exact Drawn0.refl _ | apply Drawn0.step)⟩
                    · rw [if_neg c25] at H
                      exact absurd H (by simp)
                  · rw [if_neg c24] at H
                    have c24b0 : ((bt a0 0) == 46) = false := beq_eq_false_iff_ne.mpr c24
                    have c24b1 : ((bt a0 0) != 46) = true := bne_iff_ne.mpr c24
                    obtain rfl := Option.some.inj H
                    go_wp2
                    go_ret
                    exact ⟨by first | rfl | (simp; done) | (simp [*]; done) | (simp; unfold wrap64; omega) | (congr 1; (try rw [Bool.eq_iff_iff]); simp [List.isEmpty_iff]; done), by repeat (first | exact Drawn0.refl _ | apply Drawn0.step)⟩
    · rw [if_neg c3] at H
      exact absurd H (by simp)

end Go.Proofs.YthmcapdakplhdaaDoor.Pr
end

/-! ## text Prx10 -/
section
namespace Go.Proofs.YthmcapdakplhdaaDoor.Pr
open Go.RowKit Go.Proofs.YthmcapdakplhdaaDoorW.PrintWords Go.Proofs.YthmcapdakplhdaaDoorW.PrintLast Go.Proofs.YthmcapdakplhdaaDoorW.PrintMore
attribute [local go_sem] max2_int min2_int max_two min_two max_three min_three max_four min_four   -- for this text's walks alone
attribute [local go_sem high] Go.Proofs.YthmcapdakplhdaaDoor.isSome_setCell
set_option maxRecDepth 100000
set_option linter.unusedVariables false
set_option linter.unusedSimpArgs false

/-! ### token_begins: function 46 -/
mutual
def token_begins.j0 : Nat → Int → Bool → Option (Int)
  | 0, _, _ => none
  | k + 1, x0, x3 => if x3 = true then (some 1) else (if x0 ≥ 97 then (if x0 ≤ 122 then (token_begins.j1 k x0 true) else (if x0 ≥ 65 then (if x0 ≤ 90 then (token_begins.j1 k x0 true) else (token_begins.j1 k x0 (x0 == 95))) else (token_begins.j1 k x0 (x0 == 95)))) else (if x0 ≥ 65 then (if x0 ≤ 90 then (token_begins.j1 k x0 true) else (token_begins.j1 k x0 (x0 == 95))) else (token_begins.j1 k x0 (x0 == 95))))
def token_begins.j1 : Nat → Int → Bool → Option (Int)
  | 0, _, _ => none
  | k + 1, x0, x18 => if x18 = true then (some 2) else (if x0 ≥ 48 then (token_begins.j2 k x0 (decide (x0 ≤ 57))) else (token_begins.j2 k x0 false))
def token_begins.j2 : Nat → Int → Bool → Option (Int)
  | 0, _, _ => none
  | k + 1, x0, x37 => if x37 = true then (some 3) else (if x0 = 34 then (some 4) else ((token_signAt.f k (Utf8.encode x0)).bind fun t245 => (if t245 > 0 then (some 5) else (some 0))))
end
def token_begins.f (k : Nat) (a0 : Int) : Option (Int) := if a0 = 32 then (token_begins.j0 k a0 true) else (if a0 = 9 then (token_begins.j0 k a0 true) else (if a0 = 10 then (token_begins.j0 k a0 true) else (token_begins.j0 k a0 (a0 == 13))))
set_option maxRecDepth 100000 in
theorem token_begins.j0_zero : ∀ y0 y1, token_begins.j0 0 y0 y1 = none := fun _ _ => rfl
set_option maxRecDepth 100000 in
theorem token_begins.j1_zero : ∀ y0 y1, token_begins.j1 0 y0 y1 = none := fun _ _ => rfl
set_option maxRecDepth 100000 in
theorem token_begins.j2_zero : ∀ y0 y1, token_begins.j2 0 y0 y1 = none := fun _ _ => rfl
set_option maxRecDepth 100000 in
theorem token_begins.mono_l : ∀ k, (∀ y0 y1, LeO (token_begins.j0 k y0 y1) (token_begins.j0 (k + 1) y0 y1)) ∧ (∀ y0 y1, LeO (token_begins.j1 k y0 y1) (token_begins.j1 (k + 1) y0 y1)) ∧ (∀ y0 y1, LeO (token_begins.j2 k y0 y1) (token_begins.j2 (k + 1) y0 y1))
  | 0 => ⟨fun _ _ r h => by (unfold token_begins.j0 at h; cases h), fun _ _ r h => by (unfold token_begins.j1 at h; cases h), fun _ _ r h => by (unfold token_begins.j2 at h; cases h)⟩
  | k + 1 => by
    obtain ⟨ih0, ih1, ih2⟩ := token_begins.mono_l k
    refine ⟨?_, ?_, ?_⟩
    · intro y0 y1
      unfold token_begins.j0
      repeat' first
      | (with_reducible exact ih0 _ _)
      | (with_reducible exact ih1 _ _)
      | (with_reducible exact ih2 _ _)
      | (with_reducible exact token_signAt.mono _ _)
      | (with_reducible exact LeO.refl _)
      | (with_reducible exact LeO.none _)
      | (with_reducible refine LeO.ite ?_ ?_)
      | (with_reducible refine LeO.bind ?_ (fun _ => ?_))
      | exact ih0 _ _
      | exact ih1 _ _
      | exact ih2 _ _
      | exact token_signAt.mono _ _
      | exact LeO.none _
      | refine LeO.ite ?_ ?_
      | refine LeO.bind ?_ (fun _ => ?_)
    · intro y0 y1
      unfold token_begins.j1
      repeat' first
      | (with_reducible exact ih0 _ _)
      | (with_reducible exact ih1 _ _)
      | (with_reducible exact ih2 _ _)
      | (with_reducible exact token_signAt.mono _ _)
      | (with_reducible exact LeO.refl _)
      | (with_reducible exact LeO.none _)
      | (with_reducible refine LeO.ite ?_ ?_)
      | (with_reducible refine LeO.bind ?_ (fun _ => ?_))
      | exact ih0 _ _
      | exact ih1 _ _
      | exact ih2 _ _
      | exact token_signAt.mono _ _
      | exact LeO.none _
      | refine LeO.ite ?_ ?_
      | refine LeO.bind ?_ (fun _ => ?_)
    · intro y0 y1
      unfold token_begins.j2
      repeat' first
      | (with_reducible exact ih0 _ _)
      | (with_reducible exact ih1 _ _)
      | (with_reducible exact ih2 _ _)
      | (with_reducible exact token_signAt.mono _ _)
      | (with_reducible exact LeO.refl _)
      | (with_reducible exact LeO.none _)
      | (with_reducible refine LeO.ite ?_ ?_)
      | (with_reducible refine LeO.bind ?_ (fun _ => ?_))
      | exact ih0 _ _
      | exact ih1 _ _
      | exact ih2 _ _
      | exact token_signAt.mono _ _
      | exact LeO.none _
      | refine LeO.ite ?_ ?_
      | refine LeO.bind ?_ (fun _ => ?_)
set_option maxRecDepth 100000 in
theorem token_begins.mono : ∀ a0 k, LeO (token_begins.f k a0) (token_begins.f (k + 1) a0) := by
  intro a0 k
  obtain ⟨ih0, ih1, ih2⟩ := token_begins.mono_l k
  unfold token_begins.f
  repeat' first
      | (with_reducible exact ih0 _ _)
      | (with_reducible exact ih1 _ _)
      | (with_reducible exact ih2 _ _)
      | (with_reducible exact token_signAt.mono _ _)
      | (with_reducible exact LeO.refl _)
      | (with_reducible exact LeO.none _)
      | (with_reducible refine LeO.ite ?_ ?_)
      | (with_reducible refine LeO.bind ?_ (fun _ => ?_))
      | exact ih0 _ _
      | exact ih1 _ _
      | exact ih2 _ _
      | exact token_signAt.mono _ _
      | exact LeO.none _
      | refine LeO.ite ?_ ?_
      | refine LeO.bind ?_ (fun _ => ?_)
set_option maxHeartbeats 8000000 in
set_option maxRecDepth 100000 in
theorem token_begins.calls (k : Nat) (a0 : Int) (r : Int) (w : World) (h : token_begins.f k a0 = some r) :
    Calls Tryd.prog 46 #[.int .u8 a0] w fun e w' => e = .returned (.int .i64 r) ∧ Drawn0 w w' := by
  have H : (if a0 = 32 then (token_begins.j0 k a0 true) else (if a0 = 9 then (token_begins.j0 k a0 true) else (if a0 = 10 then (token_begins.j0 k a0 true) else (token_begins.j0 k a0 (a0 == 13))))) = some r := h
  clear h
  have HC2 := Aside0.mk H
  clear H
  go_enter Tryd.func46, Tryd.ntmps46
  go_upto_region 1 with (fail)
  go_cut [3] (fun v3 wc => ∃ (kq : Nat) (x3_1 : Bool), v3 = .bool x3_1 ∧ Aside0 (token_begins.j0 kq a0 x3_1 = some r) ∧ Aside0 (kq ≤ k) ∧ Drawn0 w wc)
  case first =>
    have H := HC2.out
    clear HC2
    by_cases c3 : a0 = 32
    · rw [if_pos c3] at H
      have c3b0 : (a0 == 32) = true := beq_iff_eq.mpr c3
      have c3b1 : (a0 != 32) = false := bne_eq_false_iff_eq.mpr c3
      clear c3
      (first | rw [c3b0] | (simp only [i64_w, i32_w, IntKind.wrap_u8, IntKind.wrap_u16, IntKind.wrap_u32]; rw [c3b0]) | skip)
      have H' := Aside0.mk H
      clear H
      go_wp2
      go_meet
      case rel => exact ⟨_, (true), (by first | rfl | (simp; done) | (simp [*]; done) | (simp; unfold wrap64; omega) | (congr 1; (try rw [Bool.eq_iff_iff]); simp [List.isEmpty_iff]; done)), H', ⟨by first | omega | exact Nat.le_refl _⟩, by repeat (first | exact Drawn0.refl _ | apply Drawn0.step)⟩
    · rw [if_neg c3] at H
      have c3b0 : (a0 == 32) = false := beq_eq_false_iff_ne.mpr c3
      have c3b1 : (a0 != 32) = true := bne_iff_ne.mpr c3
      (first | rw [c3b0] | (simp only [i64_w, i32_w, IntKind.wrap_u8, IntKind.wrap_u16, IntKind.wrap_u32]; rw [c3b0]) | skip)
      by_cases c4 : a0 = 9
      · rw [if_pos c4] at H
        have c4b0 : (a0 == 9) = true := beq_iff_eq.mpr c4
        have c4b1 : (a0 != 9) = false := bne_eq_false_iff_eq.mpr c4
        clear c4
        have H' := Aside0.mk H
        clear H
        go_wp2
        go_meet
        case rel => exact ⟨_, (true), (by first | rfl | (simp; done) | (simp [*]; done) | (simp; unfold wrap64; omega) | (congr 1; (try rw [Bool.eq_iff_iff]); simp [List.isEmpty_iff]; done)), H', ⟨by first | omega | exact Nat.le_refl _⟩, by repeat (first | exact Drawn0.refl _ | apply Drawn0.step)⟩
      · rw [if_neg c4] at H
        have c4b0 : (a0 == 9) = false := beq_eq_false_iff_ne.mpr c4
        have c4b1 : (a0 != 9) = true := bne_iff_ne.mpr c4
        by_cases c5 : a0 = 10
        · rw [if_pos c5] at H
          have c5b0 : (a0 == 10) = true := beq_iff_eq.mpr c5
          have c5b1 : (a0 != 10) = false := bne_eq_false_iff_eq.mpr c5
          clear c5
          have H' := Aside0.mk H
          clear H
          go_wp2
          go_meet
          case rel => exact ⟨_, (true), (by first | rfl | (simp; done) | (simp [*]; done) | (simp; unfold wrap64; omega) | (congr 1; (try rw [Bool.eq_iff_iff]); simp [List.isEmpty_iff]; done)), H', ⟨by first | omega | exact Nat.le_refl _⟩, by repeat (first | exact Drawn0.refl _ | apply Drawn0.step)⟩
        · rw [if_neg c5] at H
          have c5b0 : (a0 == 10) = false := beq_eq_false_iff_ne.mpr c5
          have c5b1 : (a0 != 10) = true := bne_iff_ne.mpr c5
          have H' := Aside0.mk H
          clear H
          go_wp2
          go_meet
          case rel => exact ⟨_, ((a0 == 13)), (by first | rfl | (simp; done) | (simp [*]; done) | (simp; unfold wrap64; omega) | (congr 1; (try rw [Bool.eq_iff_iff]); simp [List.isEmpty_iff]; done)), H', ⟨by first | omega | exact Nat.le_refl _⟩, by repeat (first | exact Drawn0.refl _ | apply Drawn0.step)⟩
  case rest =>
    clear HC2
    try clear p2
    try clear c3
    try clear c3b0
    try clear c3b1
    try clear c4
    try clear c4b0
    try clear c4b1
    try clear c5
    try clear c5b0
    try clear c5b1
    obtain ⟨kq, x3_1, rfl, HA, HJ1, ⟨mc1, rfl⟩⟩ := hcut
    cases kq with
    | zero => (have HA2 := HA.out; clear HA; revert HA2; rw [token_begins.j0_zero]; intro h_; cases h_)
    | succ kj1 =>
      have H := HA.out
      clear HA
      simp only [token_begins.j0] at H
      by_cases c6 : x3_1 = true
      · subst c6
        have H1 : (some 1) = some r := by rw [if_pos rfl] at H; exact H
        clear H
        have H := H1
        clear H1
        obtain rfl := Option.some.inj H
        go_wp2
        go_ret
        exact ⟨by first | rfl | (simp; done) | (simp [*]; done) | (simp; unfold wrap64; omega) | (congr 1; (try rw [Bool.eq_iff_iff]); simp [List.isEmpty_iff]; done), by repeat (first | exact Drawn0.refl _ | apply Drawn0.step)⟩
      · replace c6 := Bool.eq_false_iff.mpr c6
        subst c6
        have H1 : (if a0 ≥ 97 then (if a0 ≤ 122 then (token_begins.j1 kj1 a0 true) else (if a0 ≥ 65 then (if a0 ≤ 90 then (token_begins.j1 kj1 a0 true) else (token_begins.j1 kj1 a0 (a0 == 95))) else (token_begins.j1 kj1 a0 (a0 == 95)))) else (if a0 ≥ 65 then (if a0 ≤ 90 then (token_begins.j1 kj1 a0 true) else (token_begins.j1 kj1 a0 (a0 == 95))) else (token_begins.j1 kj1 a0 (a0 == 95)))) = some r := by rw [if_neg (show ¬ (false = true) by decide)] at H; exact H
        clear H
        have H := H1
        clear H1
        have HC7 := Aside0.mk H
        clear H
        go_upto_region 3 with (fail)
        go_cut [18] (fun v18 wc => ∃ (kq : Nat) (x18_6 : Bool), v18 = .bool x18_6 ∧ Aside0 (token_begins.j1 kq a0 x18_6 = some r) ∧ Aside0 (kq ≤ kj1) ∧ Drawn0 w wc)
        case first =>
          have H := HC7.out
          clear HC7
          by_cases c8 : a0 ≥ 97
          · rw [if_pos c8] at H
            have c8b0 : decide (97 ≤ a0) = true := decide_eq_true c8
            clear c8
            (first | rw [c8b0] | (simp only [i64_w, i32_w, IntKind.wrap_u8, IntKind.wrap_u16, IntKind.wrap_u32]; rw [c8b0]) | skip)
            by_cases c9 : a0 ≤ 122
            · rw [if_pos c9] at H
              have c9b0 : decide (a0 ≤ 122) = true := decide_eq_true c9
              clear c9
              have H' := Aside0.mk H
              clear H
              go_wp2
              go_meet
              case rel => exact ⟨_, (true), (by first | rfl | (simp; done) | (simp [*]; done) | (simp; unfold wrap64; omega) | (congr 1; (try rw [Bool.eq_iff_iff]); simp [List.isEmpty_iff]; done)), H', ⟨by have := HJ1.out; first | omega | exact Nat.le_refl _⟩, by repeat (first | exact Drawn0.refl _ | apply Drawn0.step)⟩
            · rw [if_neg c9] at H
              have c9b0 : decide (a0 ≤ 122) = false := decide_eq_false c9
              clear c9
              by_cases c10 : a0 ≥ 65
              · rw [if_pos c10] at H
                have c10b0 : decide (65 ≤ a0) = true := decide_eq_true c10
                clear c10
                by_cases c11 : a0 ≤ 90
                · rw [if_pos c11] at H
                  have c11b0 : decide (a0 ≤ 90) = true := decide_eq_true c11
                  clear c11
                  have H' := Aside0.mk H
                  clear H
                  go_wp2
                  go_meet
                  case rel => exact ⟨_, (true), (by first | rfl | (simp; done) | (simp [*]; done) | (simp; unfold wrap64; omega) | (congr 1; (try rw [Bool.eq_iff_iff]); simp [List.isEmpty_iff]; done)), H', ⟨by have := HJ1.out; first | omega | exact Nat.le_refl _⟩, by repeat (first | exact Drawn0.refl _ | apply Drawn0.step)⟩
                · rw [if_neg c11] at H
                  have c11b0 : decide (a0 ≤ 90) = false := decide_eq_false c11
                  clear c11
                  have H' := Aside0.mk H
                  clear H
                  go_wp2
                  go_meet
                  case rel => exact ⟨_, ((a0 == 95)), (by first | rfl | (simp; done) | (simp [*]; done) | (simp; unfold wrap64; omega) | (congr 1; (try rw [Bool.eq_iff_iff]); simp [List.isEmpty_iff]; done)), H', ⟨by have := HJ1.out; first | omega | exact Nat.le_refl _⟩, by repeat (first | exact Drawn0.refl _ | apply Drawn0.step)⟩
              · rw [if_neg c10] at H
                have c10b0 : decide (65 ≤ a0) = false := decide_eq_false c10
                clear c10
                have H' := Aside0.mk H
                clear H
                go_wp2
                go_meet
                case rel => exact ⟨_, ((a0 == 95)), (by first | rfl | (simp; done) | (simp [*]; done) | (simp; unfold wrap64; omega) | (congr 1; (try rw [Bool.eq_iff_iff]); simp [List.isEmpty_iff]; done)), H', ⟨by have := HJ1.out; first | omega | exact Nat.le_refl _⟩, by repeat (first | exact Drawn0.refl _ | apply Drawn0.step)⟩
          · rw [if_neg c8] at H
            have c8b0 : decide (97 ≤ a0) = false := decide_eq_false c8
            clear c8
            (first | rw [c8b0] | (simp only [i64_w, i32_w, IntKind.wrap_u8, IntKind.wrap_u16, IntKind.wrap_u32]; rw [c8b0]) | skip)
            by_cases c12 : a0 ≥ 65
            · rw [if_pos c12] at H
              have c12b0 : decide (65 ≤ a0) = true := decide_eq_true c12
              clear c12
              by_cases c13 : a0 ≤ 90
              · rw [if_pos c13] at H
                have c13b0 : decide (a0 ≤ 90) = true := decide_eq_true c13
                clear c13
                have H' := Aside0.mk H
                clear H
                go_wp2
                go_meet
                case rel => exact ⟨_, (true), (by first | rfl | (simp; done) | (simp [*]; done) | (simp; unfold wrap64; omega) | (congr 1; (try rw [Bool.eq_iff_iff]); simp [List.isEmpty_iff]; done)), H', ⟨by have := HJ1.out; first | omega | exact Nat.le_refl _⟩, by repeat (first | exact Drawn0.refl _ | apply Drawn0.step)⟩
              · rw [if_neg c13] at H
                have c13b0 : decide (a0 ≤ 90) = false := decide_eq_false c13
                clear c13
                have H' := Aside0.mk H
                clear H
                go_wp2
                go_meet
                case rel => exact ⟨_, ((a0 == 95)), (by first | rfl | (simp; done) | (simp [*]; done) | (simp; unfold wrap64; omega) | (congr 1; (try rw [Bool.eq_iff_iff]); simp [List.isEmpty_iff]; done)), H', ⟨by have := HJ1.out; first | omega | exact Nat.le_refl _⟩, by repeat (first | exact Drawn0.refl _ | apply Drawn0.step)⟩
            · rw [if_neg c12] at H
              have c12b0 : decide (65 ≤ a0) = false := decide_eq_false c12
              clear c12
              have H' := Aside0.mk H
              clear H
              go_wp2
              go_meet
              case rel => exact ⟨_, ((a0 == 95)), (by first | rfl | (simp; done) | (simp [*]; done) | (simp; unfold wrap64; omega) | (congr 1; (try rw [Bool.eq_iff_iff]); simp [List.isEmpty_iff]; done)), H', ⟨by have := HJ1.out; first | omega | exact Nat.le_refl _⟩, by repeat (first | exact Drawn0.refl _ | apply Drawn0.step)⟩
        case rest =>
          clear HC7
          try clear c1
          try clear p2
          try clear c3
          try clear c3b0
          try clear c3b1
          try clear c4
          try clear c4b0
          try clear c4b1
          try clear c5
          try clear c5b0
          try clear c5b1
          try clear c6
          try clear c8
          try clear c8b0
          try clear c9
          try clear c9b0
          try clear c10
          try clear c10b0
          try clear c11
          try clear c11b0
          try clear c12
          try clear c12b0
          try clear c13
          try clear c13b0
          try clear p2
          obtain ⟨kq, x18_6, rfl, HA, HJ6, ⟨mc6, rfl⟩⟩ := hcut
          cases kq with
          | zero => (have HA2 := HA.out; clear HA; revert HA2; rw [token_begins.j1_zero]; intro h_; cases h_)
          | succ kj6 =>
            have H := HA.out
            clear HA
            simp only [token_begins.j1] at H
            by_cases c14 : x18_6 = true
            · subst c14
              have H1 : (some 2) = some r := by rw [if_pos rfl] at H; exact H
              clear H
              have H := H1
              clear H1
              obtain rfl := Option.some.inj H
              go_wp2
              go_ret
              exact ⟨by first | rfl | (simp; done) | (simp [*]; done) | (simp; unfold wrap64; omega) | (congr 1; (try rw [Bool.eq_iff_iff]); simp [List.isEmpty_iff]; done), by repeat (first | exact Drawn0.refl _ | apply Drawn0.step)⟩
            · replace c14 := Bool.eq_false_iff.mpr c14
              subst c14
              have H1 : (if a0 ≥ 48 then (token_begins.j2 kj6 a0 (decide (a0 ≤ 57))) else (token_begins.j2 kj6 a0 false)) = some r := by rw [if_neg (show ¬ (false = true) by decide)] at H; exact H
              clear H
              have H := H1
              clear H1
              have HC15 := Aside0.mk H
              clear H
              go_upto_region 5 with (fail)
              go_cut [37] (fun v37 wc => ∃ (kq : Nat) (x37_14 : Bool), v37 = .bool x37_14 ∧ Aside0 (token_begins.j2 kq a0 x37_14 = some r) ∧ Aside0 (kq ≤ kj6) ∧ Drawn0 w wc)
              case first =>
                have H := HC15.out
                clear HC15
                by_cases c16 : a0 ≥ 48
                · rw [if_pos c16] at H
                  have c16b0 : decide (48 ≤ a0) = true := decide_eq_true c16
                  clear c16
                  (first | rw [c16b0] | (simp only [i64_w, i32_w, IntKind.wrap_u8, IntKind.wrap_u16, IntKind.wrap_u32]; rw [c16b0]) | skip)
                  have H' := Aside0.mk H
                  clear H
                  go_wp2
                  go_meet
                  case rel => exact ⟨_, (decide (a0 ≤ 57)), (by first | rfl | (simp; done) | (simp [*]; done) | (simp; unfold wrap64; omega) | (congr 1; (try rw [Bool.eq_iff_iff]); simp [List.isEmpty_iff]; done)), H', ⟨by have := HJ1.out; have := HJ6.out; first | omega | exact Nat.le_refl _⟩, by repeat (first | exact Drawn0.refl _ | apply Drawn0.step)⟩
                · rw [if_neg c16] at H
                  have c16b0 : decide (48 ≤ a0) = false := decide_eq_false c16
                  clear c16
                  (first | rw [c16b0] | (simp only [i64_w, i32_w, IntKind.wrap_u8, IntKind.wrap_u16, IntKind.wrap_u32]; rw [c16b0]) | skip)
                  have H' := Aside0.mk H
                  clear H
                  go_wp2
                  go_meet
                  case rel => exact ⟨_, (false), (by first | rfl | (simp; done) | (simp [*]; done) | (simp; unfold wrap64; omega) | (congr 1; (try rw [Bool.eq_iff_iff]); simp [List.isEmpty_iff]; done)), H', ⟨by have := HJ1.out; have := HJ6.out; first | omega | exact Nat.le_refl _⟩, by repeat (first | exact Drawn0.refl _ | apply Drawn0.step)⟩
              case rest =>
                clear HC15
                try clear c1
                try clear p2
                try clear c3
                try clear c3b0
                try clear c3b1
                try clear c4
                try clear c4b0
                try clear c4b1
                try clear c5
                try clear c5b0
                try clear c5b1
                try clear c6
                try clear c8
                try clear c8b0
                try clear c9
                try clear c9b0
                try clear c10
                try clear c10b0
                try clear c11
                try clear c11b0
                try clear c12
                try clear c12b0
                try clear c13
                try clear c13b0
                try clear c14
                try clear c16
                try clear c16b0
                try clear p2
                obtain ⟨kq, x37_14, rfl, HA, HJ14, ⟨mc14, rfl⟩⟩ := hcut
                cases kq with
                | zero => (have HA2 := HA.out; clear HA; revert HA2; rw [token_begins.j2_zero]; intro h_; cases h_)
                | succ kj14 =>
                  have H := HA.out
                  clear HA
                  simp only [token_begins.j2] at H
                  by_cases c17 : x37_14 = true
                  · subst c17
                    have H1 : (some 3) = some r := by rw [if_pos rfl] at H; exact H
                    clear H
                    have H := H1
                    clear H1
                    obtain rfl := Option.some.inj H
                    go_wp2
                    go_ret
                    exact ⟨by first | rfl | (simp; done) | (simp [*]; done) | (simp; unfold wrap64; omega) | (congr 1; (try rw [Bool.eq_iff_iff]); simp [List.isEmpty_iff]; done), by repeat (first | exact Drawn0.refl _ | apply Drawn0.step)⟩
                  · replace c17 := Bool.eq_false_iff.mpr c17
                    subst c17
                    have H1 : (if a0 = 34 then (some 4) else ((token_signAt.f kj14 (Utf8.encode a0)).bind fun t245 => (if t245 > 0 then (some 5) else (some 0)))) = some r := by rw [if_neg (show ¬ (false = true) by decide)] at H; exact H
                    clear H
                    have H := H1
                    clear H1
                    by_cases c18 : a0 = 34
                    · rw [if_pos c18] at H
                      have c18b0 : (a0 == 34) = true := beq_iff_eq.mpr c18
                      have c18b1 : (a0 != 34) = false := bne_eq_false_iff_eq.mpr c18
                      clear c18
                      obtain rfl := Option.some.inj H
                      go_wp2
                      go_ret
                      exact ⟨by first | rfl | (simp; done) | (simp [*]; done) | (simp; unfold wrap64; omega) | (congr 1; (try rw [Bool.eq_iff_iff]); simp [List.isEmpty_iff]; done), by repeat (first | exact Drawn0.refl _ | apply Drawn0.step)⟩
                    · rw [if_neg c18] at H
                      have c18b0 : (a0 == 34) = false := beq_eq_false_iff_ne.mpr c18
                      have c18b1 : (a0 != 34) = true := bne_iff_ne.mpr c18
                      replace H := Option.bind_eq_some_iff.mp H
                      obtain ⟨t245, A190, H⟩ := H
                      replace H : (if t245 > 0 then (some 5) else (some 0)) = some r := H
                      have A19 := Aside0.mk A190
                      clear A190
                      by_cases c20 : t245 > 0
                      · rw [if_pos c20] at H
                        have c20b0 : decide (0 < t245) = true := decide_eq_true c20
                        clear c20
                        obtain rfl := Option.some.inj H
                        go_wp2_with (first | ((with_reducible refine gate_callee (f := 51) rfl ?_); refine goesT (some 49) Tryd.func51 #[.string (Utf8.encode a0)] ?_; (with_reducible refine (token_signAt.calls kj14 (Utf8.encode a0) t245 _ A19.out).mono ?_); rintro e w' ⟨rfl, ⟨nd, rfl⟩⟩; refine ⟨_, rfl, ?_⟩))
                        go_ret
                        exact ⟨by first | rfl | (simp; done) | (simp [*]; done) | (simp; unfold wrap64; omega) | (congr 1; (try rw [Bool.eq_iff_iff]); simp [List.isEmpty_iff]; done), by repeat (first | exact Drawn0.refl _ | apply Drawn0.step)⟩
                      · rw [if_neg c20] at H
                        have c20b0 : decide (0 < t245) = false := decide_eq_false c20
                        clear c20
                        obtain rfl := Option.some.inj H
                        go_wp2_with (first | ((with_reducible refine gate_callee (f := 51) rfl ?_); refine goesT (some 49) Tryd.func51 #[.string (Utf8.encode a0)] ?_; (with_reducible refine (token_signAt.calls kj14 (Utf8.encode a0) t245 _ A19.out).mono ?_); rintro e w' ⟨rfl, ⟨nd, rfl⟩⟩; refine ⟨_, rfl, ?_⟩))
                        go_ret
                        exact ⟨by first | rfl | (simp; done) | (simp [*]; done) | (simp; unfold wrap64; omega) | (congr 1; (try rw [Bool.eq_iff_iff]); simp [List.isEmpty_iff]; done), by repeat (first | exact Drawn0.refl _ | apply Drawn0.step)⟩

/-! ### token_goesOn: function 48 -/
def token_goesOn.f (k : Nat) (a0 : Int) : Option (Bool) := (token_begins.f k a0).bind fun t246 => (if t246 = 2 then (some true) else (some (t246 == 3)))
set_option maxRecDepth 100000 in
theorem token_goesOn.mono : ∀ a0 k, LeO (token_goesOn.f k a0) (token_goesOn.f (k + 1) a0) := by
  intro a0 k
  unfold token_goesOn.f
  repeat' first
      | (with_reducible exact token_begins.mono _ _)
      | (with_reducible exact LeO.refl _)
      | (with_reducible exact LeO.none _)
      | (with_reducible refine LeO.ite ?_ ?_)
      | (with_reducible refine LeO.bind ?_ (fun _ => ?_))
      | exact token_begins.mono _ _
      | exact LeO.none _
      | refine LeO.ite ?_ ?_
      | refine LeO.bind ?_ (fun _ => ?_)
set_option maxHeartbeats 8000000 in
set_option maxRecDepth 100000 in
theorem token_goesOn.calls (k : Nat) (a0 : Int) (r : Bool) (w : World) (h : token_goesOn.f k a0 = some r) :
    Calls Tryd.prog 48 #[.int .u8 a0] w fun e w' => e = .returned (.bool r) ∧ Drawn0 w w' := by
  have H : ((token_begins.f k a0).bind fun t246 => (if t246 = 2 then (some true) else (some (t246 == 3)))) = some r := h
  clear h
  replace H := Option.bind_eq_some_iff.mp H
  obtain ⟨t246, A20, H⟩ := H
  replace H : (if t246 = 2 then (some true) else (some (t246 == 3))) = some r := H
  have A2 := Aside0.mk A20
  clear A20
  by_cases c3 : t246 = 2
  · rw [if_pos c3] at H
    have c3b0 : (t246 == 2) = true := beq_iff_eq.mpr c3
    have c3b1 : (t246 != 2) = false := bne_eq_false_iff_eq.mpr c3
    clear c3
    obtain rfl := Option.some.inj H
    go_enter Tryd.func48, Tryd.ntmps48
    go_wp2_with (first | ((with_reducible refine gate_callee (f := 46) rfl ?_); refine goesT (some 5) Tryd.func46 #[.int .u8 a0] ?_; (with_reducible refine (token_begins.calls k a0 t246 _ A2.out).mono ?_); rintro e w' ⟨rfl, ⟨nd, rfl⟩⟩; refine ⟨_, rfl, ?_⟩))
    go_ret
    exact ⟨by first | rfl | (simp; done) | (simp [*]; done) | (simp; unfold wrap64; omega) | (congr 1; (try rw [Bool.eq_iff_iff]); simp [List.isEmpty_iff]; done), by repeat (first | exact Drawn0.refl _ | apply Drawn0.step)⟩
  · rw [if_neg c3] at H
    have c3b0 : (t246 == 2) = false := beq_eq_false_iff_ne.mpr c3
    have c3b1 : (t246 != 2) = true := bne_iff_ne.mpr c3
    obtain rfl := Option.some.inj H
    go_enter Tryd.func48, Tryd.ntmps48
    go_wp2_with (first | ((with_reducible refine gate_callee (f := 46) rfl ?_); refine goesT (some 5) Tryd.func46 #[.int .u8 a0] ?_; (with_reducible refine (token_begins.calls k a0 t246 _ A2.out).mono ?_); rintro e w' ⟨rfl, ⟨nd, rfl⟩⟩; refine ⟨_, rfl, ?_⟩))
    go_ret
    exact ⟨by first | rfl | (simp; done) | (simp [*]; done) | (simp; unfold wrap64; omega) | (congr 1; (try rw [Bool.eq_iff_iff]); simp [List.isEmpty_iff]; done), by repeat (first | exact Drawn0.refl _ | apply Drawn0.step)⟩

/-! ### token_run: function 47 -/
def token_run.l0 : Nat → ByteArray → Int → Option (Int)
  | 0, _, _ => none
  | k + 1, x0, x5 => if x5 < (x0.size : Int) then (if 0 ≤ x5 then ((token_goesOn.f k (bt x0 x5)).bind fun t247 => (if t247 = true then (token_run.l0 k x0 (wrap64 (x5 + 1))) else (some x5))) else (none)) else (some x5)
def token_run.f (k : Nat) (a0 : ByteArray) (a1 : Value) : Option (Int) := token_run.l0 k a0 0
set_option maxRecDepth 100000 in
theorem token_run.l0_zero : ∀ y0 y1, token_run.l0 0 y0 y1 = none := fun _ _ => rfl
set_option maxRecDepth 100000 in
theorem token_run.mono_l : ∀ k, (∀ y0 y1, LeO (token_run.l0 k y0 y1) (token_run.l0 (k + 1) y0 y1))
  | 0 => fun _ _ r h => by (unfold token_run.l0 at h; cases h)
  | k + 1 => by
    have ih0 := token_run.mono_l k
    · intro y0 y1
      unfold token_run.l0
      repeat' first
      | (with_reducible exact ih0 _ _)
      | (with_reducible exact token_goesOn.mono _ _)
      | (with_reducible exact LeO.refl _)
      | (with_reducible exact LeO.none _)
      | (with_reducible refine LeO.ite ?_ ?_)
      | (with_reducible refine LeO.bind ?_ (fun _ => ?_))
      | exact ih0 _ _
      | exact token_goesOn.mono _ _
      | exact LeO.none _
      | refine LeO.ite ?_ ?_
      | refine LeO.bind ?_ (fun _ => ?_)
set_option maxRecDepth 100000 in
theorem token_run.mono : ∀ a0 a1 k, LeO (token_run.f k a0 a1) (token_run.f (k + 1) a0 a1) := by
  intro a0 a1 k
  have ih0 := token_run.mono_l k
  unfold token_run.f
  repeat' first
      | (with_reducible exact ih0 _ _)
      | (with_reducible exact token_goesOn.mono _ _)
      | (with_reducible exact LeO.refl _)
      | (with_reducible exact LeO.none _)
      | (with_reducible refine LeO.ite ?_ ?_)
      | (with_reducible refine LeO.bind ?_ (fun _ => ?_))
      | exact ih0 _ _
      | exact token_goesOn.mono _ _
      | exact LeO.none _
      | refine LeO.ite ?_ ?_
      | refine LeO.bind ?_ (fun _ => ?_)
set_option maxHeartbeats 8000000 in
set_option maxRecDepth 100000 in
theorem token_run.calls (k : Nat) (a0 : ByteArray) (a1 : Value) (r : Int) (w : World) (h : token_run.f k a0 a1 = some r) :
    Calls Tryd.prog 47 #[.string a0, (.func (.func 48) #[] #[])] w fun e w' => e = .returned (.int .i64 r) ∧ Drawn0 w w' := by
  have H : (token_run.l0 k a0 0) = some r := h
  clear h
  have H' := Aside0.mk H
  clear H
  go_enter Tryd.func47, Tryd.ntmps47
  go_wp2
  go_loopg [5] k (fun kq v5 w' => ∃ (x5_1 : Int), v5 = .int .i64 x5_1 ∧ Aside0 (token_run.l0 kq a0 x5_1 = some r) ∧ Aside0 (kq ≤ k) ∧ Drawn0 w w')
  case atStart => exact ⟨(0), (by first | rfl | (simp; done) | (simp [*]; done) | (simp; unfold wrap64; omega) | (congr 1; (try rw [Bool.eq_iff_iff]); simp [List.isEmpty_iff]; done)), H', ⟨Nat.le_refl _⟩, by repeat (first | exact Drawn0.refl _ | apply Drawn0.step)⟩
  case round =>
    clear H'
    try clear p2
    obtain ⟨x5_1, rfl, HA, HK1, ⟨m1, rfl⟩⟩ := hrel
    cases gk with
    | zero => (have HA2 := HA.out; clear HA; revert HA2; rw [token_run.l0_zero]; intro h_; cases h_)
    | succ k1 =>
      have H := HA.out
      clear HA
      simp only [token_run.l0] at H
      by_cases c3 : x5_1 < (a0.size : Int)
      · rw [if_pos c3] at H
        have c3b0 : decide (x5_1 < (a0.size : Int)) = true := decide_eq_true c3
        clear c3
        by_cases c4 : 0 ≤ x5_1
        · rw [if_pos c4] at H
          have c4b0 : decide (0 ≤ x5_1) = true := decide_eq_true c4
          clear c4
          replace H := Option.bind_eq_some_iff.mp H
          obtain ⟨t247, A60, H⟩ := H
          replace H : (if t247 = true then (token_run.l0 k1 a0 (wrap64 (x5_1 + 1))) else (some x5_1)) = some r := H
          have A6 := Aside0.mk A60
          clear A60
          by_cases c7 : t247 = true
          · subst c7
            have H1 : (token_run.l0 k1 a0 (wrap64 (x5_1 + 1))) = some r := by rw [if_pos rfl] at H; exact H
            clear H
            have H := H1
            clear H1
            have H' := Aside0.mk H
            clear H
            have p5 : 0 ≤ (x5_1 : Int) := of_decide_eq_true (by first | (with_reducible assumption) | assumption)
            have q5 : x5_1 < (a0.size : Int) := of_decide_eq_true (by first | (with_reducible assumption) | assumption)
            have hx5 := bt_at a0 x5_1
            replace p5 := eq_true p5
            replace q5 := eq_true q5
            go_wp2_with (first | (go_at_call 48; (with_reducible refine (token_goesOn.calls k1 (bt a0 x5_1) true _ A6.out).mono ?_); rintro e w' ⟨rfl, ⟨nd, rfl⟩⟩))
            go_roundg k1
            case measure => have := HK1.out; omega
            case rel => exact ⟨(wrap64 (x5_1 + 1)), (by first | rfl | (simp; done) | (simp [*]; done) | (simp; unfold wrap64; omega) | (congr 1; (try rw [Bool.eq_iff_iff]); simp [List.isEmpty_iff]; done)), H', ⟨by have := HK1.out; omega⟩, by repeat (first | exact Drawn0.refl _ | apply Drawn0.step)⟩
          · replace c7 := Bool.eq_false_iff.mpr c7
            subst c7
            have H1 : (some x5_1) = some r := by rw [if_neg (show ¬ (false = true) by decide)] at H; exact H
            clear H
            have H := H1
            clear H1
            obtain rfl := Option.some.inj H
            have p5 : 0 ≤ (x5_1 : Int) := of_decide_eq_true (by first | (with_reducible assumption) | assumption)
            have q5 : x5_1 < (a0.size : Int) := of_decide_eq_true (by first | (with_reducible assumption) | assumption)
            have hx5 := bt_at a0 x5_1
            replace p5 := eq_true p5
            replace q5 := eq_true q5
            go_wp2_with (first | (go_at_call 48; (with_reducible refine (token_goesOn.calls k1 (bt a0 x5_1) false _ A6.out).mono ?_); rintro e w' ⟨rfl, ⟨nd, rfl⟩⟩))
            go_ret
            exact ⟨by first | rfl | (simp; done) | (simp [*]; done) | (simp; unfold wrap64; omega) | (congr 1; (try rw [Bool.eq_iff_iff]); simp [List.isEmpty_iff]; done), by repeat (first | exact Drawn0.refl _ | apply Drawn0.step)⟩
        · rw [if_neg c4] at H
          exact absurd H (by simp)
      · rw [if_neg c3] at H
        have c3b0 : decide (x5_1 < (a0.size : Int)) = false := decide_eq_false c3
        clear c3
        obtain rfl := Option.some.inj H
        go_wp2
        go_ret
        exact ⟨by first | rfl | (simp; done) | (simp [*]; done) | (simp; unfold wrap64; omega) | (congr 1; (try rw [Bool.eq_iff_iff]); simp [List.isEmpty_iff]; done), by repeat (first | exact Drawn0.refl _ | apply Drawn0.step)⟩

end Go.Proofs.YthmcapdakplhdaaDoor.Pr
end

/-! ## text Prx11 -/
section
namespace Go.Proofs.YthmcapdakplhdaaDoor.Pr
open Go.RowKit Go.Proofs.YthmcapdakplhdaaDoorW.PrintWords Go.Proofs.YthmcapdakplhdaaDoorW.PrintLast Go.Proofs.YthmcapdakplhdaaDoorW.PrintMore
attribute [local go_sem] max2_int min2_int max_two min_two max_three min_three max_four min_four   -- for this text's walks alone
attribute [local go_sem high] Go.Proofs.YthmcapdakplhdaaDoor.isSome_setCell
set_option maxRecDepth 100000
set_option linter.unusedVariables false
set_option linter.unusedSimpArgs false

/-! ### token_hexDigit: function 102 -/
mutual
def token_hexDigit.j0 : Nat → Int → Bool → Option (Int)
  | 0, _, _ => none
  | k + 1, x0, x3 => if x3 = true then (some ((x0 - 48) % 256)) else (if x0 ≥ 97 then (token_hexDigit.j1 k x0 (decide (x0 ≤ 102))) else (token_hexDigit.j1 k x0 false))
def token_hexDigit.j1 : Nat → Int → Bool → Option (Int)
  | 0, _, _ => none
  | k + 1, x0, x13 => if x13 = true then (some (((x0 - 97) % 256) + 10)) else (if x0 ≥ 65 then (if x0 ≤ 70 then (some (((x0 - 65) % 256) + 10)) else (some (-1))) else (some (-1)))
end
def token_hexDigit.f (k : Nat) (a0 : Int) : Option (Int) := if a0 ≥ 48 then (token_hexDigit.j0 k a0 (decide (a0 ≤ 57))) else (token_hexDigit.j0 k a0 false)
set_option maxRecDepth 100000 in
theorem token_hexDigit.j0_zero : ∀ y0 y1, token_hexDigit.j0 0 y0 y1 = none := fun _ _ => rfl
set_option maxRecDepth 100000 in
theorem token_hexDigit.j1_zero : ∀ y0 y1, token_hexDigit.j1 0 y0 y1 = none := fun _ _ => rfl
set_option maxRecDepth 100000 in
theorem token_hexDigit.mono_l : ∀ k, (∀ y0 y1, LeO (token_hexDigit.j0 k y0 y1) (token_hexDigit.j0 (k + 1) y0 y1)) ∧ (∀ y0 y1, LeO (token_hexDigit.j1 k y0 y1) (token_hexDigit.j1 (k + 1) y0 y1))
  | 0 => ⟨fun _ _ r h => by (unfold token_hexDigit.j0 at h; cases h), fun _ _ r h => by (unfold token_hexDigit.j1 at h; cases h)⟩
  | k + 1 => by
    obtain ⟨ih0, ih1⟩ := token_hexDigit.mono_l k
    refine ⟨?_, ?_⟩
    · intro y0 y1
      unfold token_hexDigit.j0
      repeat' first
      | (with_reducible exact ih0 _ _)
      | (with_reducible exact ih1 _ _)
      | (with_reducible exact LeO.refl _)
      | (with_reducible exact LeO.none _)
      | (with_reducible refine LeO.ite ?_ ?_)
      | (with_reducible refine LeO.bind ?_ (fun _ => ?_))
      | exact ih0 _ _
      | exact ih1 _ _
      | exact LeO.none _
      | refine LeO.ite ?_ ?_
      | refine LeO.bind ?_ (fun _ => ?_)
    · intro y0 y1
      unfold token_hexDigit.j1
      repeat' first
      | (with_reducible exact ih0 _ _)
      | (with_reducible exact ih1 _ _)
      | (with_reducible exact LeO.refl _)
      | (with_reducible exact LeO.none _)
      | (with_reducible refine LeO.ite ?_ ?_)
      | (with_reducible refine LeO.bind ?_ (fun _ => ?_))
      | exact ih0 _ _
      | exact ih1 _ _
      | exact LeO.none _
      | refine LeO.ite ?_ ?_
      | refine LeO.bind ?_ (fun _ => ?_)
set_option maxRecDepth 100000 in
theorem token_hexDigit.mono : ∀ a0 k, LeO (token_hexDigit.f k a0) (token_hexDigit.f (k + 1) a0) := by
  intro a0 k
  obtain ⟨ih0, ih1⟩ := token_hexDigit.mono_l k
  unfold token_hexDigit.f
  repeat' first
      | (with_reducible exact ih0 _ _)
      | (with_reducible exact ih1 _ _)
      | (with_reducible exact LeO.refl _)
      | (with_reducible exact LeO.none _)
      | (with_reducible refine LeO.ite ?_ ?_)
      | (with_reducible refine LeO.bind ?_ (fun _ => ?_))
      | exact ih0 _ _
      | exact ih1 _ _
      | exact LeO.none _
      | refine LeO.ite ?_ ?_
      | refine LeO.bind ?_ (fun _ => ?_)
set_option maxHeartbeats 8000000 in
set_option maxRecDepth 100000 in
theorem token_hexDigit.calls (k : Nat) (a0 : Int) (r : Int) (w : World) (h : token_hexDigit.f k a0 = some r) :
    Calls Tryd.prog 102 #[.int .u8 a0] w fun e w' => e = .returned (.int .i64 r) ∧ Drawn0 w w' := by
  have H : (if a0 ≥ 48 then (token_hexDigit.j0 k a0 (decide (a0 ≤ 57))) else (token_hexDigit.j0 k a0 false)) = some r := h
  clear h
  have HC2 := Aside0.mk H
  clear H
  go_enter Tryd.func102, Tryd.ntmps102
  go_upto_region 1 with (fail)
  go_cut [3] (fun v3 wc => ∃ (kq : Nat) (x3_1 : Bool), v3 = .bool x3_1 ∧ Aside0 (token_hexDigit.j0 kq a0 x3_1 = some r) ∧ Aside0 (kq ≤ k) ∧ Drawn0 w wc)
  case first =>
    have H := HC2.out
    clear HC2
    by_cases c3 : a0 ≥ 48
    · rw [if_pos c3] at H
      have c3b0 : decide (48 ≤ a0) = true := decide_eq_true c3
      clear c3
      (first | rw [c3b0] | (simp only [i64_w, i32_w, IntKind.wrap_u8, IntKind.wrap_u16, IntKind.wrap_u32]; rw [c3b0]) | skip)
      have H' := Aside0.mk H
      clear H
      go_wp2
      go_meet
      case rel => exact ⟨_, (decide (a0 ≤ 57)), (by first | rfl | (simp; done) | (simp [*]; done) | (simp; unfold wrap64; omega) | (congr 1; (try rw [Bool.eq_iff_iff]); simp [List.isEmpty_iff]; done)), H', ⟨by first | omega | exact Nat.le_refl _⟩, by repeat (first | exact Drawn0.refl _ | apply Drawn0.step)⟩
    · rw [if_neg c3] at H
      have c3b0 : decide (48 ≤ a0) = false := decide_eq_false c3
      clear c3
      (first | rw [c3b0] | (simp only [i64_w, i32_w, IntKind.wrap_u8, IntKind.wrap_u16, IntKind.wrap_u32]; rw [c3b0]) | skip)
      have H' := Aside0.mk H
      clear H
      go_wp2
      go_meet
      case rel => exact ⟨_, (false), (by first | rfl | (simp; done) | (simp [*]; done) | (simp; unfold wrap64; omega) | (congr 1; (try rw [Bool.eq_iff_iff]); simp [List.isEmpty_iff]; done)), H', ⟨by first | omega | exact Nat.le_refl _⟩, by repeat (first | exact Drawn0.refl _ | apply Drawn0.step)⟩
  case rest =>
    clear HC2
    try clear c1
    try clear p2
    try clear c3
    try clear c3b0
    obtain ⟨kq, x3_1, rfl, HA, HJ1, ⟨mc1, rfl⟩⟩ := hcut
    cases kq with
    | zero => (have HA2 := HA.out; clear HA; revert HA2; rw [token_hexDigit.j0_zero]; intro h_; cases h_)
    | succ kj1 =>
      have H := HA.out
      clear HA
      simp only [token_hexDigit.j0] at H
      by_cases c4 : x3_1 = true
      · subst c4
        have H1 : (some ((a0 - 48) % 256)) = some r := by rw [if_pos rfl] at H; exact H
        clear H
        have H := H1
        clear H1
        obtain rfl := Option.some.inj H
        go_wp2
        go_ret
        exact ⟨by first | rfl | (simp; done) | (simp [*]; done) | (simp; unfold wrap64; omega) | (congr 1; (try rw [Bool.eq_iff_iff]); simp [List.isEmpty_iff]; done), by repeat (first | exact Drawn0.refl _ | apply Drawn0.step)⟩
      · replace c4 := Bool.eq_false_iff.mpr c4
        subst c4
        have H1 : (if a0 ≥ 97 then (token_hexDigit.j1 kj1 a0 (decide (a0 ≤ 102))) else (token_hexDigit.j1 kj1 a0 false)) = some r := by rw [if_neg (show ¬ (false = true) by decide)] at H; exact H
        clear H
        have H := H1
        clear H1
        have HC5 := Aside0.mk H
        clear H
        go_upto_region 3 with (fail)
        go_cut [13] (fun v13 wc => ∃ (kq : Nat) (x13_4 : Bool), v13 = .bool x13_4 ∧ Aside0 (token_hexDigit.j1 kq a0 x13_4 = some r) ∧ Aside0 (kq ≤ kj1) ∧ Drawn0 w wc)
        case first =>
          have H := HC5.out
          clear HC5
          by_cases c6 : a0 ≥ 97
          · rw [if_pos c6] at H
            have c6b0 : decide (97 ≤ a0) = true := decide_eq_true c6
            clear c6
            (first | rw [c6b0] | (simp only [i64_w, i32_w, IntKind.wrap_u8, IntKind.wrap_u16, IntKind.wrap_u32]; rw [c6b0]) | skip)
            have H' := Aside0.mk H
            clear H
            go_wp2
            go_meet
            case rel => exact ⟨_, (decide (a0 ≤ 102)), (by first | rfl | (simp; done) | (simp [*]; done) | (simp; unfold wrap64; omega) | (congr 1; (try rw [Bool.eq_iff_iff]); simp [List.isEmpty_iff]; done)), H', ⟨by have := HJ1.out; first | omega | exact Nat.le_refl _⟩, by repeat (first | exact Drawn0.refl _ | apply Drawn0.step)⟩
          · rw [if_neg c6] at H
            have c6b0 : decide (97 ≤ a0) = false := decide_eq_false c6
            clear c6
            (first | rw [c6b0] | (simp only [i64_w, i32_w, IntKind.wrap_u8, IntKind.wrap_u16, IntKind.wrap_u32]; rw [c6b0]) | skip)
            have H' := Aside0.mk H
            clear H
            go_wp2
            go_meet
            case rel => exact ⟨_, (false), (by first | rfl | (simp; done) | (simp [*]; done) | (simp; unfold wrap64; omega) | (congr 1; (try rw [Bool.eq_iff_iff]); simp [List.isEmpty_iff]; done)), H', ⟨by have := HJ1.out; first | omega | exact Nat.le_refl _⟩, by repeat (first | exact Drawn0.refl _ | apply Drawn0.step)⟩
        case rest =>
          clear HC5
          try clear c1
          try clear p2
          try clear c3
          try clear c3b0
          try clear c4
          try clear c6
          try clear c6b0
          try clear p2
          obtain ⟨kq, x13_4, rfl, HA, HJ4, ⟨mc4, rfl⟩⟩ := hcut
          cases kq with
          | zero => (have HA2 := HA.out; clear HA; revert HA2; rw [token_hexDigit.j1_zero]; intro h_; cases h_)
          | succ kj4 =>
            have H := HA.out
            clear HA
            simp only [token_hexDigit.j1] at H
            by_cases c7 : x13_4 = true
            · subst c7
              have H1 : (some (((a0 - 97) % 256) + 10)) = some r := by rw [if_pos rfl] at H; exact H
              clear H
              have H := H1
              clear H1
              obtain rfl := Option.some.inj H
              go_wp2
              go_ret
              exact ⟨by first | rfl | (simp; done) | (simp [*]; done) | (simp; unfold wrap64; omega) | (congr 1; (try rw [Bool.eq_iff_iff]); simp [List.isEmpty_iff]; done), by repeat (first | exact Drawn0.refl _ | apply Drawn0.step)⟩
            · replace c7 := Bool.eq_false_iff.mpr c7
              subst c7
              have H1 : (if a0 ≥ 65 then (if a0 ≤ 70 then (some (((a0 - 65) % 256) + 10)) else (some (-1))) else (some (-1))) = some r := by rw [if_neg (show ¬ (false = true) by decide)] at H; exact H
              clear H
              have H := H1
              clear H1
              by_cases c8 : a0 ≥ 65
              · rw [if_pos c8] at H
                have c8b0 : decide (65 ≤ a0) = true := decide_eq_true c8
                clear c8
                by_cases c9 : a0 ≤ 70
                · rw [if_pos c9] at H
                  have c9b0 : decide (a0 ≤ 70) = true := decide_eq_true c9
                  clear c9
                  obtain rfl := Option.some.inj H
                  go_wp2
                  go_ret
                  exact ⟨by first | rfl | (simp; done) | (simp [*]; done) | (simp; unfold wrap64; omega) | (congr 1; (try rw [Bool.eq_iff_iff]); simp [List.isEmpty_iff]; done), by repeat (first | exact Drawn0.refl _ | apply Drawn0.step)⟩
                · rw [if_neg c9] at H
                  have c9b0 : decide (a0 ≤ 70) = false := decide_eq_false c9
                  clear c9
                  obtain rfl := Option.some.inj H
                  go_wp2
                  go_ret
                  exact ⟨by first | rfl | (simp; done) | (simp [*]; done) | (simp; unfold wrap64; omega) | (congr 1; (try rw [Bool.eq_iff_iff]); simp [List.isEmpty_iff]; done), by repeat (first | exact Drawn0.refl _ | apply Drawn0.step)⟩
              · rw [if_neg c8] at H
                have c8b0 : decide (65 ≤ a0) = false := decide_eq_false c8
                clear c8
                obtain rfl := Option.some.inj H
                go_wp2
                go_ret
                exact ⟨by first | rfl | (simp; done) | (simp [*]; done) | (simp; unfold wrap64; omega) | (congr 1; (try rw [Bool.eq_iff_iff]); simp [List.isEmpty_iff]; done), by repeat (first | exact Drawn0.refl _ | apply Drawn0.step)⟩

/-! ### token_hex: function 80 -/
def token_hex.l0 : Nat → ByteArray → Int → Int → Option (Int × Int × Int)
  | 0, _, _, _ => none
  | k + 1, x0, x5, x8 => if x8 < 2 then (if x8 ≥ (x0.size : Int) then (some (0, 0, 52)) else (if 0 ≤ x8 then (if x8 < (x0.size : Int) then ((token_hexDigit.f k (bt x0 x8)).bind fun t248 => (if t248 < 0 then (some (0, 0, 51)) else (token_hex.l0 k x0 (wrap64 ((wrap64 (x5 * 16)) + t248)) (wrap64 (x8 + 1))))) else (none)) else (none))) else (some ((x5) % 256, 4, 0))
def token_hex.f (k : Nat) (a0 : ByteArray) : Option (Int × Int × Int) := token_hex.l0 k a0 0 0
set_option maxRecDepth 100000 in
theorem token_hex.l0_zero : ∀ y0 y1 y2, token_hex.l0 0 y0 y1 y2 = none := fun _ _ _ => rfl
set_option maxRecDepth 100000 in
theorem token_hex.mono_l : ∀ k, (∀ y0 y1 y2, LeO (token_hex.l0 k y0 y1 y2) (token_hex.l0 (k + 1) y0 y1 y2))
  | 0 => fun _ _ _ r h => by (unfold token_hex.l0 at h; cases h)
  | k + 1 => by
    have ih0 := token_hex.mono_l k
    · intro y0 y1 y2
      unfold token_hex.l0
      repeat' first
      | (with_reducible exact ih0 _ _ _)
      | (with_reducible exact token_hexDigit.mono _ _)
      | (with_reducible exact LeO.refl _)
      | (with_reducible exact LeO.none _)
      | (with_reducible refine LeO.ite ?_ ?_)
      | (with_reducible refine LeO.bind ?_ (fun _ => ?_))
      | exact ih0 _ _ _
      | exact token_hexDigit.mono _ _
      | exact LeO.none _
      | refine LeO.ite ?_ ?_
      | refine LeO.bind ?_ (fun _ => ?_)
set_option maxRecDepth 100000 in
theorem token_hex.mono : ∀ a0 k, LeO (token_hex.f k a0) (token_hex.f (k + 1) a0) := by
  intro a0 k
  have ih0 := token_hex.mono_l k
  unfold token_hex.f
  repeat' first
      | (with_reducible exact ih0 _ _ _)
      | (with_reducible exact token_hexDigit.mono _ _)
      | (with_reducible exact LeO.refl _)
      | (with_reducible exact LeO.none _)
      | (with_reducible refine LeO.ite ?_ ?_)
      | (with_reducible refine LeO.bind ?_ (fun _ => ?_))
      | exact ih0 _ _ _
      | exact token_hexDigit.mono _ _
      | exact LeO.none _
      | refine LeO.ite ?_ ?_
      | refine LeO.bind ?_ (fun _ => ?_)
set_option maxHeartbeats 8000000 in
set_option maxRecDepth 100000 in
theorem token_hex.calls (k : Nat) (a0 : ByteArray) (r1 : Int) (r2 : Int) (r3 : Int) (w : World) (h : token_hex.f k a0 = some (r1, r2, r3)) :
    Calls Tryd.prog 80 #[.string a0] w fun e w' => e = .returned (.tuple #[.int .u8 r1, .int .i64 r2, .int .i64 r3]) ∧ Drawn0 w w' := by
  have H : (token_hex.l0 k a0 0 0) = some (r1, r2, r3) := h
  clear h
  have H' := Aside0.mk H
  clear H
  go_enter Tryd.func80, Tryd.ntmps80
  go_wp2
  go_loopg [5, 8] k (fun kq v5 v8 w' => ∃ (x5_1 : Int) (x8_1 : Int), v5 = .int .i64 x5_1 ∧ v8 = .int .i64 x8_1 ∧ Aside0 (token_hex.l0 kq a0 x5_1 x8_1 = some (r1, r2, r3)) ∧ Aside0 (kq ≤ k) ∧ Drawn0 w w')
  case atStart => exact ⟨(0), (0), (by first | rfl | (simp; done) | (simp [*]; done) | (simp; unfold wrap64; omega) | (congr 1; (try rw [Bool.eq_iff_iff]); simp [List.isEmpty_iff]; done)), (by first | rfl | (simp; done) | (simp [*]; done) | (simp; unfold wrap64; omega) | (congr 1; (try rw [Bool.eq_iff_iff]); simp [List.isEmpty_iff]; done)), H', ⟨Nat.le_refl _⟩, by repeat (first | exact Drawn0.refl _ | apply Drawn0.step)⟩
  case round =>
    clear H'
    obtain ⟨x5_1, x8_1, rfl, rfl, HA, HK1, ⟨m1, rfl⟩⟩ := hrel
    cases gk with
    | zero => (have HA2 := HA.out; clear HA; revert HA2; rw [token_hex.l0_zero]; intro h_; cases h_)
    | succ k1 =>
      have H := HA.out
      clear HA
      simp only [token_hex.l0] at H
      by_cases c2 : x8_1 < 2
      · rw [if_pos c2] at H
        have c2b0 : decide (x8_1 < 2) = true := decide_eq_true c2
        clear c2
        by_cases c3 : x8_1 ≥ (a0.size : Int)
        · rw [if_pos c3] at H
          have c3b0 : decide ((a0.size : Int) ≤ x8_1) = true := decide_eq_true c3
          clear c3
          simp only [Option.some.injEq, Prod.mk.injEq] at H
          obtain ⟨rfl, rfl, rfl⟩ := H
          go_wp2
          go_ret3
          exact ⟨by first | rfl | (simp; done) | (simp [*]; done) | (simp; unfold wrap64; omega) | (congr 1; (try rw [Bool.eq_iff_iff]); simp [List.isEmpty_iff]; done), by repeat (first | exact Drawn0.refl _ | apply Drawn0.step)⟩
        · rw [if_neg c3] at H
          have c3b0 : decide ((a0.size : Int) ≤ x8_1) = false := decide_eq_false c3
          clear c3
          by_cases c4 : 0 ≤ x8_1
          · rw [if_pos c4] at H
            have c4b0 : decide (0 ≤ x8_1) = true := decide_eq_true c4
            clear c4
            by_cases c5 : x8_1 < (a0.size : Int)
            · rw [if_pos c5] at H
              have c5b0 : decide (x8_1 < (a0.size : Int)) = true := decide_eq_true c5
              clear c5
              replace H := Option.bind_eq_some_iff.mp H
              obtain ⟨t248, A70, H⟩ := H
              replace H : (if t248 < 0 then (some (0, 0, 51)) else (token_hex.l0 k1 a0 (wrap64 ((wrap64 (x5_1 * 16)) + t248)) (wrap64 (x8_1 + 1)))) = some (r1, r2, r3) := H
              have A7 := Aside0.mk A70
              clear A70
              by_cases c8 : t248 < 0
              · rw [if_pos c8] at H
                have c8b0 : decide (t248 < 0) = true := decide_eq_true c8
                clear c8
                simp only [Option.some.injEq, Prod.mk.injEq] at H
                obtain ⟨rfl, rfl, rfl⟩ := H
                have p6 : 0 ≤ (x8_1 : Int) := of_decide_eq_true (by first | (with_reducible assumption) | assumption)
                have q6 : x8_1 < (a0.size : Int) := of_decide_eq_true (by first | (with_reducible assumption) | assumption)
                have hx6 := bt_at a0 x8_1
                replace p6 := eq_true p6
                replace q6 := eq_true q6
                go_wp2_with (first | ((with_reducible refine gate_callee (f := 102) rfl ?_); refine goesT (some 18) Tryd.func102 #[.int .u8 (bt a0 x8_1)] ?_; (with_reducible refine (token_hexDigit.calls k1 (bt a0 x8_1) t248 _ A7.out).mono ?_); rintro e w' ⟨rfl, ⟨nd, rfl⟩⟩; refine ⟨_, rfl, ?_⟩))
                go_ret3
                exact ⟨by first | rfl | (simp; done) | (simp [*]; done) | (simp; unfold wrap64; omega) | (congr 1; (try rw [Bool.eq_iff_iff]); simp [List.isEmpty_iff]; done), by repeat (first | exact Drawn0.refl _ | apply Drawn0.step)⟩
              · rw [if_neg c8] at H
                have c8b0 : decide (t248 < 0) = false := decide_eq_false c8
                clear c8
                have H' := Aside0.mk H
                clear H
                have p6 : 0 ≤ (x8_1 : Int) := of_decide_eq_true (by first | (with_reducible assumption) | assumption)
                have q6 : x8_1 < (a0.size : Int) := of_decide_eq_true (by first | (with_reducible assumption) | assumption)
                have hx6 := bt_at a0 x8_1
                replace p6 := eq_true p6
                replace q6 := eq_true q6
                go_wp2_with (first | ((with_reducible refine gate_callee (f := 102) rfl ?_); refine goesT (some 18) Tryd.func102 #[.int .u8 (bt a0 x8_1)] ?_; (with_reducible refine (token_hexDigit.calls k1 (bt a0 x8_1) t248 _ A7.out).mono ?_); rintro e w' ⟨rfl, ⟨nd, rfl⟩⟩; refine ⟨_, rfl, ?_⟩))
                go_roundg k1
                case measure => have := HK1.out; omega
                case rel => exact ⟨(wrap64 ((wrap64 (x5_1 * 16)) + t248)), (wrap64 (x8_1 + 1)), (by first | rfl | (simp; done) | (simp [*]; done) | (simp; unfold wrap64; omega) | (congr 1; (try rw [Bool.eq_iff_iff]); simp [List.isEmpty_iff]; done)), (by first | rfl | (simp; done) | (simp [*]; done) | (simp; unfold wrap64; omega) | (congr 1; (try rw [Bool.eq_iff_iff]); simp [List.isEmpty_iff]; done)), H', ⟨by have := HK1.out; omega⟩, by repeat (first | exact Drawn0.refl _ | apply Drawn0.step)⟩
            · rw [if_neg c5] at H
              exact absurd H (by simp)
          · rw [if_neg c4] at H
            exact absurd H (by simp)
      · rw [if_neg c2] at H
        have c2b0 : decide (x8_1 < 2) = false := decide_eq_false c2
        clear c2
        simp only [Option.some.injEq, Prod.mk.injEq] at H
        obtain ⟨rfl, rfl, rfl⟩ := H
        go_wp2
        go_ret3
        exact ⟨by first | rfl | (simp; done) | (simp [*]; done) | (simp; unfold wrap64; omega) | (congr 1; (try rw [Bool.eq_iff_iff]); simp [List.isEmpty_iff]; done), by repeat (first | exact Drawn0.refl _ | apply Drawn0.step)⟩

/-! ### token_escape: function 66 -/
def token_escape.j0 : Nat → ByteArray → Int → Bool → Option (Int × Int × Int)
  | 0, _, _, _ => none
  | k + 1, x0, x8, x9 => if x9 = true then (if 0 < (x0.size : Int) then (some (bt x0 0, 2, 0)) else (none)) else (if x8 = 110 then (some (10, 2, 0)) else (if x8 = 116 then (some (9, 2, 0)) else (if x8 = 120 then (if 1 ≤ (x0.size : Int) then ((token_hex.f k (x0.extract 1 x0.size)).bind fun bt249 => (some (bt249.1, bt249.2.1, bt249.2.2))) else (none)) else (some (0, 0, 51)))))
def token_escape.f (k : Nat) (a0 : ByteArray) : Option (Int × Int × Int) := if a0.toList = ([] : List UInt8) then (some (0, 0, 52)) else (if 0 < (a0.size : Int) then (if (bt a0 0) = 34 then (token_escape.j0 k a0 (bt a0 0) ((bt a0 0) == 34)) else (token_escape.j0 k a0 (bt a0 0) ((bt a0 0) == 92))) else (none))
set_option maxRecDepth 100000 in
theorem token_escape.j0_zero : ∀ y0 y1 y2, token_escape.j0 0 y0 y1 y2 = none := fun _ _ _ => rfl
set_option maxRecDepth 100000 in
theorem token_escape.mono_l : ∀ k, (∀ y0 y1 y2, LeO (token_escape.j0 k y0 y1 y2) (token_escape.j0 (k + 1) y0 y1 y2))
  | 0 => fun _ _ _ r h => by (unfold token_escape.j0 at h; cases h)
  | k + 1 => by
    have ih0 := token_escape.mono_l k
    · intro y0 y1 y2
      unfold token_escape.j0
      repeat' first
      | (with_reducible exact ih0 _ _ _)
      | (with_reducible exact token_hex.mono _ _)
      | (with_reducible exact LeO.refl _)
      | (with_reducible exact LeO.none _)
      | (with_reducible refine LeO.ite ?_ ?_)
      | (with_reducible refine LeO.bind ?_ (fun _ => ?_))
      | exact ih0 _ _ _
      | exact token_hex.mono _ _
      | exact LeO.none _
      | refine LeO.ite ?_ ?_
      | refine LeO.bind ?_ (fun _ => ?_)
set_option maxRecDepth 100000 in
theorem token_escape.mono : ∀ a0 k, LeO (token_escape.f k a0) (token_escape.f (k + 1) a0) := by
  intro a0 k
  have ih0 := token_escape.mono_l k
  unfold token_escape.f
  repeat' first
      | (with_reducible exact ih0 _ _ _)
      | (with_reducible exact token_hex.mono _ _)
      | (with_reducible exact LeO.refl _)
      | (with_reducible exact LeO.none _)
      | (with_reducible refine LeO.ite ?_ ?_)
      | (with_reducible refine LeO.bind ?_ (fun _ => ?_))
      | exact ih0 _ _ _
      | exact token_hex.mono _ _
      | exact LeO.none _
      | refine LeO.ite ?_ ?_
      | refine LeO.bind ?_ (fun _ => ?_)
set_option maxHeartbeats 8000000 in
set_option maxRecDepth 100000 in
theorem token_escape.calls (k : Nat) (a0 : ByteArray) (r1 : Int) (r2 : Int) (r3 : Int) (w : World) (h : token_escape.f k a0 = some (r1, r2, r3)) :
    Calls Tryd.prog 66 #[.string a0] w fun e w' => e = .returned (.tuple #[.int .u8 r1, .int .i64 r2, .int .i64 r3]) ∧ Drawn0 w w' := by
  have H : (if a0.toList = ([] : List UInt8) then (some (0, 0, 52)) else (if 0 < (a0.size : Int) then (if (bt a0 0) = 34 then (token_escape.j0 k a0 (bt a0 0) ((bt a0 0) == 34)) else (token_escape.j0 k a0 (bt a0 0) ((bt a0 0) == 92))) else (none))) = some (r1, r2, r3) := h
  clear h
  by_cases c2 : a0.toList = ([] : List UInt8)
  · rw [if_pos c2] at H
    have c2b0 : (a0.toList == ([] : List UInt8)) = true := beq_iff_eq.mpr c2
    have c2b1 : (a0.toList != ([] : List UInt8)) = false := bne_eq_false_iff_eq.mpr c2
    clear c2
    simp only [Option.some.injEq, Prod.mk.injEq] at H
    obtain ⟨rfl, rfl, rfl⟩ := H
    go_enter Tryd.func66, Tryd.ntmps66
    go_wp2
    go_ret3
    exact ⟨by first | rfl | (simp; done) | (simp [*]; done) | (simp; unfold wrap64; omega) | (congr 1; (try rw [Bool.eq_iff_iff]); simp [List.isEmpty_iff]; done), by repeat (first | exact Drawn0.refl _ | apply Drawn0.step)⟩
  · rw [if_neg c2] at H
    have c2b0 : (a0.toList == ([] : List UInt8)) = false := beq_eq_false_iff_ne.mpr c2
    have c2b1 : (a0.toList != ([] : List UInt8)) = true := bne_iff_ne.mpr c2
    by_cases c3 : 0 < (a0.size : Int)
    · rw [if_pos c3] at H
      have c3b0 : decide (0 < (a0.size : Int)) = true := decide_eq_true c3
      have c3b1 : decide (0 < a0.size) = true := decide_eq_true (by omega)
      clear c3
      have HC5 := Aside0.mk H
      clear H
      have p4 : 0 ≤ (0 : Int) := (by omega)
      have q4 : 0 < a0.size := (by have : (0 : Int) < (a0.size : Int) := of_decide_eq_true (by first | (with_reducible assumption) | assumption); omega)
      have hx4 : ∀ h : 0 < a0.size, ((a0[0]'h).toNat : Int) = bt a0 0 := bt_at a0 0
      clear p4
      have qi4 : (0 < (a0.size : Int)) = True := eq_true (of_decide_eq_true (by first | (with_reducible assumption) | assumption))
      replace q4 := eq_true q4
      go_enter Tryd.func66, Tryd.ntmps66
      go_upto_if 9 with (fail)
      go_cut [9] (fun v9 wc => ∃ (kq : Nat) (x9_4 : Bool), v9 = .bool x9_4 ∧ Aside0 (token_escape.j0 kq a0 (bt a0 0) x9_4 = some (r1, r2, r3)) ∧ Aside0 (kq ≤ k) ∧ Drawn0 w wc)
      case first =>
        have H := HC5.out
        clear HC5
        by_cases c6 : (bt a0 0) = 34
        · rw [if_pos c6] at H
          have c6b0 : ((bt a0 0) == 34) = true := beq_iff_eq.mpr c6
          have c6b1 : ((bt a0 0) != 34) = false := bne_eq_false_iff_eq.mpr c6
          clear c6
          (first | rw [c6b0] | (simp only [i64_w, i32_w, IntKind.wrap_u8, IntKind.wrap_u16, IntKind.wrap_u32]; rw [c6b0]) | skip)
          have H' := Aside0.mk H
          clear H
          go_wp2
          go_meet
          case rel => exact ⟨_, (((bt a0 0) == 34)), (by first | rfl | (simp; done) | (simp [*]; done) | (simp; unfold wrap64; omega) | (congr 1; (try rw [Bool.eq_iff_iff]); simp [List.isEmpty_iff]; done)), H', ⟨by first | omega | exact Nat.le_refl _⟩, by repeat (first | exact Drawn0.refl _ | apply Drawn0.step)⟩
        · rw [if_neg c6] at H
          have c6b0 : ((bt a0 0) == 34) = false := beq_eq_false_iff_ne.mpr c6
          have c6b1 : ((bt a0 0) != 34) = true := bne_iff_ne.mpr c6
          (first | rw [c6b0] | (simp only [i64_w, i32_w, IntKind.wrap_u8, IntKind.wrap_u16, IntKind.wrap_u32]; rw [c6b0]) | skip)
          have H' := Aside0.mk H
          clear H
          go_wp2
          go_meet
          case rel => exact ⟨_, (((bt a0 0) == 92)), (by first | rfl | (simp; done) | (simp [*]; done) | (simp; unfold wrap64; omega) | (congr 1; (try rw [Bool.eq_iff_iff]); simp [List.isEmpty_iff]; done)), H', ⟨by first | omega | exact Nat.le_refl _⟩, by repeat (first | exact Drawn0.refl _ | apply Drawn0.step)⟩
      case rest =>
        clear HC5
        try clear c2
        try clear c2b0
        try clear c2b1
        try clear p2
        try clear c3
        try clear c3b0
        try clear c3b1
        try clear p4
        try clear q4
        try clear hx4
        try clear qi4
        try clear c6
        try clear c6b0
        try clear c6b1
        try clear p4
        try clear q4
        obtain ⟨kq, x9_4, rfl, HA, HJ4, ⟨mc4, rfl⟩⟩ := hcut
        cases kq with
        | zero => (have HA2 := HA.out; clear HA; revert HA2; rw [token_escape.j0_zero]; intro h_; cases h_)
        | succ kj4 =>
          have H := HA.out
          clear HA
          simp only [token_escape.j0] at H
          by_cases c7 : x9_4 = true
          · subst c7
            have H1 : (if 0 < (a0.size : Int) then (some (bt a0 0, 2, 0)) else (none)) = some (r1, r2, r3) := by rw [if_pos rfl] at H; exact H
            clear H
            have H := H1
            clear H1
            by_cases c8 : 0 < (a0.size : Int)
            · rw [if_pos c8] at H
              have c8b0 : decide (0 < (a0.size : Int)) = true := decide_eq_true c8
              have c8b1 : decide (0 < a0.size) = true := decide_eq_true (by omega)
              clear c8
              simp only [Option.some.injEq, Prod.mk.injEq] at H
              obtain ⟨rfl, rfl, rfl⟩ := H
              have p9 : 0 ≤ (0 : Int) := (by omega)
              have q9 : 0 < a0.size := (by have : (0 : Int) < (a0.size : Int) := of_decide_eq_true (by first | (with_reducible assumption) | assumption); omega)
              have hx9 : ∀ h : 0 < a0.size, ((a0[0]'h).toNat : Int) = bt a0 0 := bt_at a0 0
              clear p9
              have qi9 : (0 < (a0.size : Int)) = True := eq_true (of_decide_eq_true (by first | (with_reducible assumption) | assumption))
              replace q9 := eq_true q9
              go_wp2
              go_ret3
              exact ⟨by first | rfl | (simp; done) | (simp [*]; done) | (simp; unfold wrap64; omega) | (congr 1; (try rw [Bool.eq_iff_iff]); simp [List.isEmpty_iff]; done), by repeat (first | exact Drawn0.refl _ | apply Drawn0.step)⟩
            · rw [if_neg c8] at H
              exact absurd H (by simp)
          · replace c7 := Bool.eq_false_iff.mpr c7
            subst c7
            have H1 : (if (bt a0 0) = 110 then (some (10, 2, 0)) else (if (bt a0 0) = 116 then (some (9, 2, 0)) else (if (bt a0 0) = 120 then (if 1 ≤ (a0.size : Int) then ((token_hex.f kj4 (a0.extract 1 a0.size)).bind fun bt249 => (some (bt249.1, bt249.2.1, bt249.2.2))) else (none)) else (some (0, 0, 51))))) = some (r1, r2, r3) := by rw [if_neg (show ¬ (false = true) by decide)] at H; exact H
            clear H
            have H := H1
            clear H1
            by_cases c10 : (bt a0 0) = 110
            · rw [if_pos c10] at H
              have c10b0 : ((bt a0 0) == 110) = true := beq_iff_eq.mpr c10
              have c10b1 : ((bt a0 0) != 110) = false := bne_eq_false_iff_eq.mpr c10
              clear c10
              simp only [Option.some.injEq, Prod.mk.injEq] at H
              obtain ⟨rfl, rfl, rfl⟩ := H
              go_wp2
              go_ret3
              exact ⟨by first | rfl | (simp; done) | (simp [*]; done) | (simp; unfold wrap64; omega) | (congr 1; (try rw [Bool.eq_iff_iff]); simp [List.isEmpty_iff]; done), by repeat (first | exact Drawn0.refl _ | apply Drawn0.step)⟩
            · rw [if_neg c10] at H
              have c10b0 : ((bt a0 0) == 110) = false := beq_eq_false_iff_ne.mpr c10
              have c10b1 : ((bt a0 0) != 110) = true := bne_iff_ne.mpr c10
              by_cases c11 : (bt a0 0) = 116
              · rw [if_pos c11] at H
                have c11b0 : ((bt a0 0) == 116) = true := beq_iff_eq.mpr c11
                have c11b1 : ((bt a0 0) != 116) = false := bne_eq_false_iff_eq.mpr c11
                clear c11
                simp only [Option.some.injEq, Prod.mk.injEq] at H
                obtain ⟨rfl, rfl, rfl⟩ := H
                go_wp2
                go_ret3
                exact ⟨by first | rfl | (simp; done) | (simp [*]; done) | (simp; unfold wrap64; omega) | (congr 1; (try rw [Bool.eq_iff_iff]); simp [List.isEmpty_iff]; done), by repeat (first | exact Drawn0.refl _ | apply Drawn0.step)⟩
              · rw [if_neg c11] at H
                have c11b0 : ((bt a0 0) == 116) = false := beq_eq_false_iff_ne.mpr c11
                have c11b1 : ((bt a0 0) != 116) = true := bne_iff_ne.mpr c11
                by_cases c12 : (bt a0 0) = 120
                · rw [if_pos c12] at H
                  have c12b0 : ((bt a0 0) == 120) = true := beq_iff_eq.mpr c12
                  have c12b1 : ((bt a0 0) != 120) = false := bne_eq_false_iff_eq.mpr c12
                  clear c12
                  by_cases c13 : 1 ≤ (a0.size : Int)
                  · rw [if_pos c13] at H
                    have c13b0 := eq_true c13
                    have c13b1 : decide (1 ≤ (a0.size : Int)) = true := decide_eq_true c13
                    clear c13
                    replace H := Option.bind_eq_some_iff.mp H
                    obtain ⟨⟨t249, t250, t251⟩, A140, H⟩ := H
                    replace H : (some (t249, t250, t251)) = some (r1, r2, r3) := H
                    have A14 := Aside0.mk A140
                    clear A140
                    simp only [Option.some.injEq, Prod.mk.injEq] at H
                    obtain ⟨rfl, rfl, rfl⟩ := H
                    go_wp2_with (first | ((with_reducible refine gate_callee (f := 80) rfl ?_); refine goesT (some 22) Tryd.func80 #[.string (a0.extract 1 a0.size)] ?_; (with_reducible refine (token_hex.calls kj4 (a0.extract 1 a0.size) t249 t250 t251 _ A14.out).mono ?_); rintro e w' ⟨rfl, ⟨nd, rfl⟩⟩; refine ⟨_, rfl, ?_⟩))
                    go_ret3
                    exact ⟨by first | rfl | (simp; done) | (simp [*]; done) | (simp; unfold wrap64; omega) | (congr 1; (try rw [Bool.eq_iff_iff]); simp [List.isEmpty_iff]; done), by repeat (first | exact Drawn0.refl _ | apply Drawn0.step)⟩
                  · rw [if_neg c13] at H
                    exact absurd H (by simp)
                · rw [if_neg c12] at H
                  have c12b0 : ((bt a0 0) == 120) = false := beq_eq_false_iff_ne.mpr c12
                  have c12b1 : ((bt a0 0) != 120) = true := bne_iff_ne.mpr c12
                  simp only [Option.some.injEq, Prod.mk.injEq] at H
                  obtain ⟨rfl, rfl, rfl⟩ := H
                  go_wp2
                  go_ret3
                  exact ⟨by first | rfl | (simp; done) | (simp [*]; done) | (simp; unfold wrap64; omega) | (congr 1; (try rw [Bool.eq_iff_iff]); simp [List.isEmpty_iff]; done), by repeat (first | exact Drawn0.refl _ | apply Drawn0.step)⟩
    · rw [if_neg c3] at H
      exact absurd H (by simp)

end Go.Proofs.YthmcapdakplhdaaDoor.Pr
end

/-! ## text Prx12 -/
section
namespace Go.Proofs.YthmcapdakplhdaaDoor.Pr
open Go.RowKit Go.Proofs.YthmcapdakplhdaaDoorW.PrintWords Go.Proofs.YthmcapdakplhdaaDoorW.PrintLast Go.Proofs.YthmcapdakplhdaaDoorW.PrintMore
attribute [local go_sem] max2_int min2_int max_two min_two max_three min_three max_four min_four   -- for this text's walks alone
attribute [local go_sem high] Go.Proofs.YthmcapdakplhdaaDoor.isSome_setCell
set_option maxRecDepth 100000
set_option linter.unusedVariables false
set_option linter.unusedSimpArgs false

/-! ### token_unquote: function 50 -/
mutual
def token_unquote.l0 : Nat → ByteArray → Int → List Int → Int → Option (ByteArray × Int × Int)
  | 0, _, _, _, _ => none
  | k + 1, x0, x1, x7, x8 => if x8 < (x0.size : Int) then (if 0 ≤ x8 then (if (bt x0 x8) = 34 then (some (strOfNums x7, wrap64 (x8 + 1), 0)) else (if (bt x0 x8) < 32 then (token_unquote.j1 k x0 x1 x7 x8 (bt x0 x8) 1 true) else (token_unquote.j1 k x0 x1 x7 x8 (bt x0 x8) 1 (decide ((bt x0 x8) > 126))))) else (none)) else (some ((⟨#[]⟩ : ByteArray), x1, 52))
def token_unquote.j1 : Nat → ByteArray → Int → List Int → Int → Int → Int → Bool → Option (ByteArray × Int × Int)
  | 0, _, _, _, _, _, _, _ => none
  | k + 1, x0, x1, x7, x8, x9, x10, x28 => if x28 = true then (some ((⟨#[]⟩ : ByteArray), x8, 50)) else (if x9 = 92 then (if 0 ≤ (wrap64 (x8 + 1)) then (if (wrap64 (x8 + 1)) ≤ (x0.size : Int) then ((token_escape.f k (x0.extract ((wrap64 (x8 + 1)) : Int).toNat x0.size)).bind fun bt252 => (if bt252.2.2 = 0 then (if (x7.length : Int) = 256 then (some ((⟨#[]⟩ : ByteArray), x1, 51)) else (if x7.length < 140737488355328 then (token_unquote.l0 k x0 x1 (x7 ++ [bt252.1]) (wrap64 (x8 + bt252.2.1))) else (none))) else (if bt252.2.2 = 52 then (some ((⟨#[]⟩ : ByteArray), x1, bt252.2.2)) else (some ((⟨#[]⟩ : ByteArray), x8, bt252.2.2))))) else (none)) else (none)) else (if (x7.length : Int) = 256 then (some ((⟨#[]⟩ : ByteArray), x1, 51)) else (if x7.length < 140737488355328 then (token_unquote.l0 k x0 x1 (x7 ++ [x9]) (wrap64 (x8 + x10))) else (none))))
end
def token_unquote.f (k : Nat) (a0 : ByteArray) (a1 : Int) : Option (ByteArray × Int × Int) := token_unquote.l0 k a0 a1 ([] : List Int) (wrap64 (a1 + 1))
set_option maxRecDepth 100000 in
theorem token_unquote.l0_zero : ∀ y0 y1 y2 y3, token_unquote.l0 0 y0 y1 y2 y3 = none := fun _ _ _ _ => rfl
set_option maxRecDepth 100000 in
theorem token_unquote.j1_zero : ∀ y0 y1 y2 y3 y4 y5 y6, token_unquote.j1 0 y0 y1 y2 y3 y4 y5 y6 = none := fun _ _ _ _ _ _ _ => rfl
set_option maxRecDepth 100000 in
theorem token_unquote.mono_l : ∀ k, (∀ y0 y1 y2 y3, LeO (token_unquote.l0 k y0 y1 y2 y3) (token_unquote.l0 (k + 1) y0 y1 y2 y3)) ∧ (∀ y0 y1 y2 y3 y4 y5 y6, LeO (token_unquote.j1 k y0 y1 y2 y3 y4 y5 y6) (token_unquote.j1 (k + 1) y0 y1 y2 y3 y4 y5 y6))
  | 0 => ⟨fun _ _ _ _ r h => by (unfold token_unquote.l0 at h; cases h), fun _ _ _ _ _ _ _ r h => by (unfold token_unquote.j1 at h; cases h)⟩
  | k + 1 => by
    obtain ⟨ih0, ih1⟩ := token_unquote.mono_l k
    refine ⟨?_, ?_⟩
    · intro y0 y1 y2 y3
      unfold token_unquote.l0
      repeat' first
      | (with_reducible exact ih0 _ _ _ _)
      | (with_reducible exact ih1 _ _ _ _ _ _ _)
      | (with_reducible exact token_escape.mono _ _)
      | (with_reducible exact LeO.refl _)
      | (with_reducible exact LeO.none _)
      | (with_reducible refine LeO.ite ?_ ?_)
      | (with_reducible refine LeO.bind ?_ (fun _ => ?_))
      | exact ih0 _ _ _ _
      | exact ih1 _ _ _ _ _ _ _
      | exact token_escape.mono _ _
      | exact LeO.none _
      | refine LeO.ite ?_ ?_
      | refine LeO.bind ?_ (fun _ => ?_)
    · intro y0 y1 y2 y3 y4 y5 y6
      unfold token_unquote.j1
      repeat' first
      | (with_reducible exact ih0 _ _ _ _)
      | (with_reducible exact ih1 _ _ _ _ _ _ _)
      | (with_reducible exact token_escape.mono _ _)
      | (with_reducible exact LeO.refl _)
      | (with_reducible exact LeO.none _)
      | (with_reducible refine LeO.ite ?_ ?_)
      | (with_reducible refine LeO.bind ?_ (fun _ => ?_))
      | exact ih0 _ _ _ _
      | exact ih1 _ _ _ _ _ _ _
      | exact token_escape.mono _ _
      | exact LeO.none _
      | refine LeO.ite ?_ ?_
      | refine LeO.bind ?_ (fun _ => ?_)
set_option maxRecDepth 100000 in
theorem token_unquote.mono : ∀ a0 a1 k, LeO (token_unquote.f k a0 a1) (token_unquote.f (k + 1) a0 a1) := by
  intro a0 a1 k
  obtain ⟨ih0, ih1⟩ := token_unquote.mono_l k
  unfold token_unquote.f
  repeat' first
      | (with_reducible exact ih0 _ _ _ _)
      | (with_reducible exact ih1 _ _ _ _ _ _ _)
      | (with_reducible exact token_escape.mono _ _)
      | (with_reducible exact LeO.refl _)
      | (with_reducible exact LeO.none _)
      | (with_reducible refine LeO.ite ?_ ?_)
      | (with_reducible refine LeO.bind ?_ (fun _ => ?_))
      | exact ih0 _ _ _ _
      | exact ih1 _ _ _ _ _ _ _
      | exact token_escape.mono _ _
      | exact LeO.none _
      | refine LeO.ite ?_ ?_
      | refine LeO.bind ?_ (fun _ => ?_)
set_option maxHeartbeats 8000000 in
set_option maxRecDepth 100000 in
theorem token_unquote.calls (k : Nat) (a0 : ByteArray) (a1 : Int) (r1 : ByteArray) (r2 : Int) (r3 : Int) (w : World) (h : token_unquote.f k a0 a1 = some (r1, r2, r3)) :
    Calls Tryd.prog 50 #[.string a0, .int .i64 a1] w fun e w' => e = .returned (.tuple #[.string r1, .int .i64 r2, .int .i64 r3]) ∧ Below w.heap.size w w' := by
  have HB := Aside0.mk (Below.refl w.heap.size w)
  have H : (token_unquote.l0 k a0 a1 ([] : List Int) (wrap64 (a1 + 1))) = some (r1, r2, r3) := h
  clear h
  have H' := Aside0.mk H
  clear H
  go_enter Tryd.func50, Tryd.ntmps50
  go_wp2
  go_loopg [7, 8] k (fun kq v7 v8 w' => ∃ (x7_1 : List Int) (x8_1 : Int), v8 = .int .i64 x8_1 ∧ Aside0 (token_unquote.l0 kq a0 a1 x7_1 x8_1 = some (r1, r2, r3)) ∧ Aside0 (kq ≤ k) ∧ Aside0 (Kd.R (Kd.int .u8) 5 w' w.heap.size (fun _ => True) v7 x7_1) ∧ Aside0 (Below w.heap.size w w'))
  case atStart => exact ⟨(([] : List Int)), (wrap64 (a1 + 1)), (by first | rfl | (simp; done) | (simp [*]; done) | (simp; unfold wrap64; omega) | (congr 1; (try rw [Bool.eq_iff_iff]); simp [List.isEmpty_iff]; done)), H', ⟨Nat.le_refl _⟩, ⟨by first | exact Kd.R_nil _ _ _ _ _ | exact Kd.N_nil _ _ _ _ _ | exact Kd.V_nil _ _ _ _ _ | exact Kd.Q_nil _ _ _ _ _ | exact Kd.S_nil _ _ _ _ _⟩, ⟨hbT HB.out⟩⟩
  case round =>
    clear H'
    try clear p2
    obtain ⟨x7_1, x8_1, rfl, HA, HK1, HO_7, HB⟩ := hrel
    cases gk with
    | zero => (have HA2 := HA.out; clear HA; revert HA2; rw [token_unquote.l0_zero]; intro h_; cases h_)
    | succ k1 =>
      have H := HA.out
      clear HA
      simp only [token_unquote.l0] at H
      by_cases c3 : x8_1 < (a0.size : Int)
      · rw [if_pos c3] at H
        have c3b0 : decide (x8_1 < (a0.size : Int)) = true := decide_eq_true c3
        clear c3
        by_cases c4 : 0 ≤ x8_1
        · rw [if_pos c4] at H
          have c4b0 : decide (0 ≤ x8_1) = true := decide_eq_true c4
          clear c4
          by_cases c6 : (bt a0 x8_1) = 34
          · rw [if_pos c6] at H
            have c6b0 : ((bt a0 x8_1) == 34) = true := beq_iff_eq.mpr c6
            have c6b1 : ((bt a0 x8_1) != 34) = false := bne_eq_false_iff_eq.mpr c6
            clear c6
            simp only [Option.some.injEq, Prod.mk.injEq] at H
            obtain ⟨rfl, rfl, rfl⟩ := H
            have p5 : 0 ≤ (x8_1 : Int) := of_decide_eq_true (by first | (with_reducible assumption) | assumption)
            have q5 : x8_1 < (a0.size : Int) := of_decide_eq_true (by first | (with_reducible assumption) | assumption)
            have hx5 := bt_at a0 x8_1
            replace p5 := eq_true p5
            replace q5 := eq_true q5
            have hcv7 := own_string (P := Tryd.prog) Tryd.underlying39 Tryd.underlying5 Tryd.underlying9 (Kd.own_of_R HO_7.out)
            go_wp2
            go_ret3
            exact ⟨by first | rfl | (simp [errW_none, errW_some] <;> rfl) | (simp [*, errW_none, errW_some] <;> rfl), hbT HB.out⟩
          · rw [if_neg c6] at H
            have c6b0 : ((bt a0 x8_1) == 34) = false := beq_eq_false_iff_ne.mpr c6
            have c6b1 : ((bt a0 x8_1) != 34) = true := bne_iff_ne.mpr c6
            have HC8 := Aside0.mk H
            clear H
            have p5 : 0 ≤ (x8_1 : Int) := of_decide_eq_true (by first | (with_reducible assumption) | assumption)
            have q5 : x8_1 < (a0.size : Int) := of_decide_eq_true (by first | (with_reducible assumption) | assumption)
            have hx5 := bt_at a0 x8_1
            replace p5 := eq_true p5
            replace q5 := eq_true q5
            go_upto_region 7 with (fail)
            go_cut [28] (fun v28 wc => ∃ (kq : Nat) (x28_7 : Bool), v28 = .bool x28_7 ∧ Aside0 (token_unquote.j1 kq a0 a1 x7_1 x8_1 (bt a0 x8_1) 1 x28_7 = some (r1, r2, r3)) ∧ Aside0 (kq ≤ k1) ∧ Aside0 (Kd.R (Kd.int .u8) 5 wc w.heap.size (fun _ => True) u7 x7_1) ∧ Aside0 (Below w.heap.size w wc))
            case first =>
              have H := HC8.out
              clear HC8
              by_cases c9 : (bt a0 x8_1) < 32
              · rw [if_pos c9] at H
                have c9b0 : decide ((bt a0 x8_1) < 32) = true := decide_eq_true c9
                clear c9
                (first | rw [c9b0] | (simp only [i64_w, i32_w, IntKind.wrap_u8, IntKind.wrap_u16, IntKind.wrap_u32]; rw [c9b0]) | skip)
                have H' := Aside0.mk H
                clear H
                go_wp2
                go_meet
                case rel => exact ⟨_, (true), (by first | rfl | (simp; done) | (simp [*]; done) | (simp; unfold wrap64; omega) | (congr 1; (try rw [Bool.eq_iff_iff]); simp [List.isEmpty_iff]; done)), H', ⟨by have := HK1.out; first | omega | exact Nat.le_refl _⟩, ⟨by (with_reducible repeat (first | apply Kd.R_alloc | apply Kd.R_drewN | apply Kd.R_drew)); exact HO_7.out⟩, ⟨hbT HB.out⟩⟩
              · rw [if_neg c9] at H
                have c9b0 : decide ((bt a0 x8_1) < 32) = false := decide_eq_false c9
                clear c9
                (first | rw [c9b0] | (simp only [i64_w, i32_w, IntKind.wrap_u8, IntKind.wrap_u16, IntKind.wrap_u32]; rw [c9b0]) | skip)
                have H' := Aside0.mk H
                clear H
                go_wp2
                go_meet
                case rel => exact ⟨_, (decide ((bt a0 x8_1) > 126)), (by first | rfl | (simp; done) | (simp [*]; done) | (simp; unfold wrap64; omega) | (congr 1; (try rw [Bool.eq_iff_iff]); simp [List.isEmpty_iff]; done)), H', ⟨by have := HK1.out; first | omega | exact Nat.le_refl _⟩, ⟨by (with_reducible repeat (first | apply Kd.R_alloc | apply Kd.R_drewN | apply Kd.R_drew)); exact HO_7.out⟩, ⟨hbT HB.out⟩⟩
            case rest =>
              clear HC8
              try clear p2
              try clear c3
              try clear c3b0
              try clear c4
              try clear c4b0
              try clear c5
              try clear p5
              try clear q5
              try clear hx5
              try clear c6
              try clear c6b0
              try clear c6b1
              try clear p6
              try clear hcv7
              try clear c9
              try clear c9b0
              try clear p2
              try clear p5
              try clear q5
              obtain ⟨kq, x28_7, rfl, HA, HJ7, HO_7, HB⟩ := hcut
              cases kq with
              | zero => (have HA2 := HA.out; clear HA; revert HA2; rw [token_unquote.j1_zero]; intro h_; cases h_)
              | succ kj7 =>
                have H := HA.out
                clear HA
                simp only [token_unquote.j1] at H
                by_cases c10 : x28_7 = true
                · subst c10
                  have H1 : (some ((⟨#[]⟩ : ByteArray), x8_1, 50)) = some (r1, r2, r3) := by rw [if_pos rfl] at H; exact H
                  clear H
                  have H := H1
                  clear H1
                  simp only [Option.some.injEq, Prod.mk.injEq] at H
                  obtain ⟨rfl, rfl, rfl⟩ := H
                  go_wp2
                  go_ret3
                  exact ⟨by first | rfl | (simp [errW_none, errW_some] <;> rfl) | (simp [*, errW_none, errW_some] <;> rfl), hbT HB.out⟩
                · replace c10 := Bool.eq_false_iff.mpr c10
                  subst c10
                  have H1 : (if (bt a0 x8_1) = 92 then (if 0 ≤ (wrap64 (x8_1 + 1)) then (if (wrap64 (x8_1 + 1)) ≤ (a0.size : Int) then ((token_escape.f kj7 (a0.extract ((wrap64 (x8_1 + 1)) : Int).toNat a0.size)).bind fun bt252 => (if bt252.2.2 = 0 then (if (x7_1.length : Int) = 256 then (some ((⟨#[]⟩ : ByteArray), a1, 51)) else (if x7_1.length < 140737488355328 then (token_unquote.l0 kj7 a0 a1 (x7_1 ++ [bt252.1]) (wrap64 (x8_1 + bt252.2.1))) else (none))) else (if bt252.2.2 = 52 then (some ((⟨#[]⟩ : ByteArray), a1, bt252.2.2)) else (some ((⟨#[]⟩ : ByteArray), x8_1, bt252.2.2))))) else (none)) else (none)) else (if (x7_1.length : Int) = 256 then (some ((⟨#[]⟩ : ByteArray), a1, 51)) else (if x7_1.length < 140737488355328 then (token_unquote.l0 kj7 a0 a1 (x7_1 ++ [(bt a0 x8_1)]) (wrap64 (x8_1 + 1))) else (none)))) = some (r1, r2, r3) := by rw [if_neg (show ¬ (false = true) by decide)] at H; exact H
                  clear H
                  have H := H1
                  clear H1
                  by_cases c11 : (bt a0 x8_1) = 92
                  · rw [if_pos c11] at H
                    have c11b0 : ((bt a0 x8_1) == 92) = true := beq_iff_eq.mpr c11
                    have c11b1 : ((bt a0 x8_1) != 92) = false := bne_eq_false_iff_eq.mpr c11
                    clear c11
                    obtain ⟨ji12, hji12⟩ : ∃ j_ : Int, (wrap64 (x8_1 + 1)) = j_ := ⟨_, rfl⟩
                    replace H : (if 0 ≤ (ji12) then (if (ji12) ≤ (a0.size : Int) then ((token_escape.f kj7 (a0.extract ((ji12) : Int).toNat a0.size)).bind fun bt252 => (if bt252.2.2 = 0 then (if (x7_1.length : Int) = 256 then (some ((⟨#[]⟩ : ByteArray), a1, 51)) else (if x7_1.length < 140737488355328 then (token_unquote.l0 kj7 a0 a1 (x7_1 ++ [bt252.1]) (wrap64 (x8_1 + bt252.2.1))) else (none))) else (if bt252.2.2 = 52 then (some ((⟨#[]⟩ : ByteArray), a1, bt252.2.2)) else (some ((⟨#[]⟩ : ByteArray), x8_1, bt252.2.2))))) else (none)) else (none)) = some (r1, r2, r3) := by first | (rw [hji12] at H; exact H) | (simp only [hji12] at H ⊢; exact H)
                    have hji12w : (IntKind.i64.wrap (x8_1 + 1)) = ji12 := (i64_w _).trans hji12
                    by_cases c13 : 0 ≤ (ji12)
                    · rw [if_pos c13] at H
                      have c13b0 := eq_true c13
                      have c13b1 : decide (0 ≤ (ji12)) = true := decide_eq_true c13
                      clear c13
                      by_cases c14 : (ji12) ≤ (a0.size : Int)
                      · rw [if_pos c14] at H
                        have c14b0 := eq_true c14
                        have c14b1 : decide ((ji12) ≤ (a0.size : Int)) = true := decide_eq_true c14
                        clear c14
                        replace H := Option.bind_eq_some_iff.mp H
                        obtain ⟨⟨t252, t253, t254⟩, A150, H⟩ := H
                        replace H : (if t254 = 0 then (if (x7_1.length : Int) = 256 then (some ((⟨#[]⟩ : ByteArray), a1, 51)) else (if x7_1.length < 140737488355328 then (token_unquote.l0 kj7 a0 a1 (x7_1 ++ [t252]) (wrap64 (x8_1 + t253))) else (none))) else (if t254 = 52 then (some ((⟨#[]⟩ : ByteArray), a1, t254)) else (some ((⟨#[]⟩ : ByteArray), x8_1, t254)))) = some (r1, r2, r3) := H
                        have A15 := Aside0.mk A150
                        clear A150
                        by_cases c16 : t254 = 0
                        · rw [if_pos c16] at H
                          have c16b0 : (t254 == 0) = true := beq_iff_eq.mpr c16
                          have c16b1 : (t254 != 0) = false := bne_eq_false_iff_eq.mpr c16
                          clear c16
                          by_cases c17 : (x7_1.length : Int) = 256
                          · rw [if_pos c17] at H
                            have c17b0 : ((x7_1.length : Int) == 256) = true := beq_iff_eq.mpr c17
                            have c17b1 : ((x7_1.length : Int) != 256) = false := bne_eq_false_iff_eq.mpr c17
                            clear c17
                            simp only [Option.some.injEq, Prod.mk.injEq] at H
                            obtain ⟨rfl, rfl, rfl⟩ := H
                            go_wp2_with (first | ((with_reducible refine gate_callee (f := 66) rfl ?_); refine goesL_ (some 44) rfl rfl Tryd.func66 (by kernel_rfl) rfl #[.string (a0.extract ((ji12) : Int).toNat a0.size)] rfl (by (try simp only [List.map_toArray, List.map_cons, List.map_nil]); first | done | (simp only [hji12]; rfl) | rfl | (simp only [List.length_drop, List.length_take]; rfl)) ?_; (with_reducible refine (token_escape.calls kj7 (a0.extract ((ji12) : Int).toNat a0.size) t252 t253 t254 _ A15.out).mono ?_); rintro e w' ⟨rfl, ⟨nd, rfl⟩⟩; refine ⟨_, rfl, ?_⟩; obtain ⟨Ao18, co18, eo18⟩ := Kd.R_slice HO_7.out; subst eo18))
                            go_ret3
                            exact ⟨by first | rfl | (simp [errW_none, errW_some] <;> rfl) | (simp only [← hji12]; first | rfl | (simp [errW_none, errW_some] <;> rfl)) | (simp [*, errW_none, errW_some] <;> rfl), hbT HB.out⟩
                          · rw [if_neg c17] at H
                            have c17b0 : ((x7_1.length : Int) == 256) = false := beq_eq_false_iff_ne.mpr c17
                            have c17b1 : ((x7_1.length : Int) != 256) = true := bne_iff_ne.mpr c17
                            by_cases c19 : x7_1.length < 140737488355328
                            · rw [if_pos c19] at H
                              have LMc19 := Aside0.mk c19
                              clear c19
                              obtain ⟨y255, hy255⟩ : ∃ y_ : List Int, y_ = (x7_1 ++ [t252]) := ⟨_, rfl⟩
                              replace H : (token_unquote.l0 kj7 a0 a1 y255 (wrap64 (x8_1 + t253))) = some (r1, r2, r3) := by first | (rw [hy255]; with_reducible exact H) | (have H2_ := (Option.bind_some _ _).symm.trans H; rw [hy255]; with_reducible exact H2_) | (have H2_ := (Option.bind_some _ _).symm.trans H; with_reducible exact H2_) | with_reducible exact H | (rw [hy255]; exact H) | exact H
                              have Ny255 := Aside0.mk hy255
                              clear hy255
                              have H' := Aside0.mk H
                              clear H
                              go_wp2_with (first | ((with_reducible refine gate_callee (f := 66) rfl ?_); refine goesL_ (some 44) rfl rfl Tryd.func66 (by kernel_rfl) rfl #[.string (a0.extract ((ji12) : Int).toNat a0.size)] rfl (by (try simp only [List.map_toArray, List.map_cons, List.map_nil]); first | done | (simp only [hji12]; rfl) | rfl | (simp only [List.length_drop, List.length_take]; rfl)) ?_; (with_reducible refine (token_escape.calls kj7 (a0.extract ((ji12) : Int).toNat a0.size) t252 t253 t254 _ A15.out).mono ?_); rintro e w' ⟨rfl, ⟨nd, rfl⟩⟩; refine ⟨_, rfl, ?_⟩; obtain ⟨Ao20, co20, eo20⟩ := Kd.R_slice HO_7.out; subst eo20) | ((with_reducible refine gate_builtin (b := .append) (xs := #[.tmp 60, .tmp 62]) rfl ?_); at_builtin; refine Kd.R_append (Kd.int .u8) (w0 := w) w.heap.size rfl (.tmp 60) (.tmp 62) 39 5 (.int .u8 0) 1 rfl Tryd.underlying39 info5 rfl (by decide) (by omega) (.slice Ao20 x7_1.length co20) x7_1 t252 [.int .u8 t252] (fun _ => True) (fun _ => False) rfl rfl ?aP (fun _ hk => hk.elim) ?aF ?aO ?aB ?aS ?aL ?_; (case aP => exact rfl); (case aB => exact (hbT HB.out)); (case aF => exact (fun _ _ => trivial)); (case aO => exact (by (with_reducible repeat (first | apply Kd.R_alloc | apply Kd.R_drewN | apply Kd.R_drew)); exact HO_7.out)); (case aS => exact (below_size (hbT HB.out))); (case aL => have := LMc19.out; omega); intro v256 w21 ho hb hg hat; rw [← Ny255.out] at ho; have n0_ := Aside0.mk (hb); have n1_ := Aside0.mk (ho); clear HB; clear HO_7; have HB := n0_; have HO257 := n1_; clear n0_ n1_; clear ho hb hg hat))
                              go_roundg kj7
                              case measure => have := HK1.out; have := HJ7.out; omega
                              case rel => exact ⟨(y255), (wrap64 (x8_1 + t253)), (by first | rfl | (simp; done) | (simp [*]; done) | (simp; unfold wrap64; omega) | (congr 1; (try rw [Bool.eq_iff_iff]); simp [List.isEmpty_iff]; done)), H', ⟨by have := HK1.out; have := HJ7.out; omega⟩, ⟨by (with_reducible repeat (first | apply Kd.R_alloc | apply Kd.R_drewN | apply Kd.R_drew)); exact HO257.out⟩, ⟨hbT HB.out⟩⟩
                            · rw [if_neg c19] at H
                              exact absurd H (by simp)
                        · rw [if_neg c16] at H
                          have c16b0 : (t254 == 0) = false := beq_eq_false_iff_ne.mpr c16
                          have c16b1 : (t254 != 0) = true := bne_iff_ne.mpr c16
                          by_cases c22 : t254 = 52
                          · rw [if_pos c22] at H
                            have c22b0 : (t254 == 52) = true := beq_iff_eq.mpr c22
                            have c22b1 : (t254 != 52) = false := bne_eq_false_iff_eq.mpr c22
                            clear c22
                            simp only [Option.some.injEq, Prod.mk.injEq] at H
                            obtain ⟨rfl, rfl, rfl⟩ := H
                            go_wp2_with (first | ((with_reducible refine gate_callee (f := 66) rfl ?_); refine goesL_ (some 44) rfl rfl Tryd.func66 (by kernel_rfl) rfl #[.string (a0.extract ((ji12) : Int).toNat a0.size)] rfl (by (try simp only [List.map_toArray, List.map_cons, List.map_nil]); first | done | (simp only [hji12]; rfl) | rfl | (simp only [List.length_drop, List.length_take]; rfl)) ?_; (with_reducible refine (token_escape.calls kj7 (a0.extract ((ji12) : Int).toNat a0.size) t252 t253 t254 _ A15.out).mono ?_); rintro e w' ⟨rfl, ⟨nd, rfl⟩⟩; refine ⟨_, rfl, ?_⟩))
                            go_ret3
                            exact ⟨by first | rfl | (simp [errW_none, errW_some] <;> rfl) | (simp only [← hji12]; first | rfl | (simp [errW_none, errW_some] <;> rfl)) | (simp [*, errW_none, errW_some] <;> rfl), hbT HB.out⟩
                          · rw [if_neg c22] at H
                            have c22b0 : (t254 == 52) = false := beq_eq_false_iff_ne.mpr c22
                            have c22b1 : (t254 != 52) = true := bne_iff_ne.mpr c22
                            simp only [Option.some.injEq, Prod.mk.injEq] at H
                            obtain ⟨rfl, rfl, rfl⟩ := H
                            go_wp2_with (first | ((with_reducible refine gate_callee (f := 66) rfl ?_); refine goesL_ (some 44) rfl rfl Tryd.func66 (by kernel_rfl) rfl #[.string (a0.extract ((ji12) : Int).toNat a0.size)] rfl (by (try simp only [List.map_toArray, List.map_cons, List.map_nil]); first | done | (simp only [hji12]; rfl) | rfl | (simp only [List.length_drop, List.length_take]; rfl)) ?_; (with_reducible refine (token_escape.calls kj7 (a0.extract ((ji12) : Int).toNat a0.size) t252 t253 t254 _ A15.out).mono ?_); rintro e w' ⟨rfl, ⟨nd, rfl⟩⟩; refine ⟨_, rfl, ?_⟩))
                            go_ret3
                            exact ⟨by first | rfl | (simp [errW_none, errW_some] <;> rfl) | (simp only [← hji12]; first | rfl | (simp [errW_none, errW_some] <;> rfl)) | (simp [*, errW_none, errW_some] <;> rfl), hbT HB.out⟩
                      · rw [if_neg c14] at H
                        exact absurd H (by simp)
                    · rw [if_neg c13] at H
                      exact absurd H (by simp)
                  · rw [if_neg c11] at H
                    have c11b0 : ((bt a0 x8_1) == 92) = false := beq_eq_false_iff_ne.mpr c11
                    have c11b1 : ((bt a0 x8_1) != 92) = true := bne_iff_ne.mpr c11
                    by_cases c23 : (x7_1.length : Int) = 256
                    · rw [if_pos c23] at H
                      have c23b0 : ((x7_1.length : Int) == 256) = true := beq_iff_eq.mpr c23
                      have c23b1 : ((x7_1.length : Int) != 256) = false := bne_eq_false_iff_eq.mpr c23
                      clear c23
                      simp only [Option.some.injEq, Prod.mk.injEq] at H
                      obtain ⟨rfl, rfl, rfl⟩ := H
                      obtain ⟨Ao24, co24, eo24⟩ := Kd.R_slice HO_7.out
                      subst eo24
                      go_wp2
                      go_ret3
                      exact ⟨by first | rfl | (simp [errW_none, errW_some] <;> rfl) | (simp [*, errW_none, errW_some] <;> rfl), hbT HB.out⟩
                    · rw [if_neg c23] at H
                      have c23b0 : ((x7_1.length : Int) == 256) = false := beq_eq_false_iff_ne.mpr c23
                      have c23b1 : ((x7_1.length : Int) != 256) = true := bne_iff_ne.mpr c23
                      by_cases c25 : x7_1.length < 140737488355328
                      · rw [if_pos c25] at H
                        have LMc25 := Aside0.mk c25
                        clear c25
                        obtain ⟨y258, hy258⟩ : ∃ y_ : List Int, y_ = (x7_1 ++ [(bt a0 x8_1)]) := ⟨_, rfl⟩
                        replace H : (token_unquote.l0 kj7 a0 a1 y258 (wrap64 (x8_1 + 1))) = some (r1, r2, r3) := by first | (rw [hy258]; with_reducible exact H) | (have H2_ := (Option.bind_some _ _).symm.trans H; rw [hy258]; with_reducible exact H2_) | (have H2_ := (Option.bind_some _ _).symm.trans H; with_reducible exact H2_) | with_reducible exact H | (rw [hy258]; exact H) | exact H
                        have Ny258 := Aside0.mk hy258
                        clear hy258
                        have H' := Aside0.mk H
                        clear H
                        obtain ⟨Ao26, co26, eo26⟩ := Kd.R_slice HO_7.out
                        subst eo26
                        go_wp2_with (first | ((with_reducible refine gate_builtin (b := .append) (xs := #[.tmp 60, .tmp 62]) rfl ?_); at_builtin; refine Kd.R_append (Kd.int .u8) (w0 := w) w.heap.size rfl (.tmp 60) (.tmp 62) 39 5 (.int .u8 0) 1 rfl Tryd.underlying39 info5 rfl (by decide) (by omega) (.slice Ao26 x7_1.length co26) x7_1 (bt a0 x8_1) [.int .u8 (bt a0 x8_1)] (fun _ => True) (fun _ => False) rfl rfl ?aP (fun _ hk => hk.elim) ?aF ?aO ?aB ?aS ?aL ?_; (case aP => exact rfl); (case aB => exact (hbT HB.out)); (case aF => exact (fun _ _ => trivial)); (case aO => exact (by (with_reducible repeat (first | apply Kd.R_alloc | apply Kd.R_drewN | apply Kd.R_drew)); exact HO_7.out)); (case aS => exact (below_size (hbT HB.out))); (case aL => have := LMc25.out; omega); intro v259 w27 ho hb hg hat; rw [← Ny258.out] at ho; have n0_ := Aside0.mk (hb); have n1_ := Aside0.mk (ho); clear HB; clear HO_7; have HB := n0_; have HO260 := n1_; clear n0_ n1_; clear ho hb hg hat))
                        go_roundg kj7
                        case measure => have := HK1.out; have := HJ7.out; omega
                        case rel => exact ⟨(y258), (wrap64 (x8_1 + 1)), (by first | rfl | (simp; done) | (simp [*]; done) | (simp; unfold wrap64; omega) | (congr 1; (try rw [Bool.eq_iff_iff]); simp [List.isEmpty_iff]; done)), H', ⟨by have := HK1.out; have := HJ7.out; omega⟩, ⟨by (with_reducible repeat (first | apply Kd.R_alloc | apply Kd.R_drewN | apply Kd.R_drew)); exact HO260.out⟩, ⟨hbT HB.out⟩⟩
                      · rw [if_neg c25] at H
                        exact absurd H (by simp)
        · rw [if_neg c4] at H
          exact absurd H (by simp)
      · rw [if_neg c3] at H
        have c3b0 : decide (x8_1 < (a0.size : Int)) = false := decide_eq_false c3
        clear c3
        simp only [Option.some.injEq, Prod.mk.injEq] at H
        obtain ⟨rfl, rfl, rfl⟩ := H
        go_wp2
        go_ret3
        exact ⟨by first | rfl | (simp [errW_none, errW_some] <;> rfl) | (simp [*, errW_none, errW_some] <;> rfl), hbT HB.out⟩

end Go.Proofs.YthmcapdakplhdaaDoor.Pr
end

/-! ## text ShA -/
section
namespace Go.Proofs
open Go.Shelf
def Tryd.laysPu14_ren : Go.Shelf.Ren := ⟨fun | 14 => 65 | 16 => 78 | 17 => 79 | 19 => 96 | 20 => 97 | 21 => 98 | 22 => 99 | 23 => 100 | 24 => 101 | 25 => 113 | 27 => 115 | 26 => 114 | 28 => 120 | 29 => 123 | 30 => 124 | 31 => 125 | 32 => 126 | 33 => 127 | 35 => 129 | 34 => 128 | 36 => 130 | 37 => 131 | 38 => 132 | 39 => 133 | 40 => 134 | n => n, fun | 9 => 9 | 3 => 3 | 22 => 104 | 24 => 83 | 25 => 105 | 4 => 4 | 34 => 131 | 5 => 5 | 36 => 109 | 37 => 39 | 0 => 0 | 39 => 133 | 21 => 21 | 44 => 143 | 47 => 103 | 50 => 152 | 48 => 150 | 2 => 2 | 52 => 157 | 55 => 160 | 59 => 163 | 60 => 153 | 20 => 20 | 61 => 164 | 65 => 167 | 66 => 168 | 67 => 89 | n => n, fun | 0 => 1 | 1 => 2 | 2 => 6 | 3 => 7 | 4 => 8 | n => n⟩
theorem Tryd.laysPu14 : Go.Proofs.LaysPu.n14 Tryd.prog Tryd.laysPu14_ren := {
  mixed := by kernel_rfl
  f14 := Tryd.func65.trans (congrArg some (by kernel_rfl))
  f16 := Tryd.func78.trans (congrArg some (by kernel_rfl))
  f17 := Tryd.func79.trans (congrArg some (by kernel_rfl))
  f19 := Tryd.func96.trans (congrArg some (by kernel_rfl))
  f20 := Tryd.func97.trans (congrArg some (by kernel_rfl))
  f21 := Tryd.func98.trans (congrArg some (by kernel_rfl))
  f22 := Tryd.func99.trans (congrArg some (by kernel_rfl))
  f23 := Tryd.func100.trans (congrArg some (by kernel_rfl))
  f24 := Tryd.func101.trans (congrArg some (by kernel_rfl))
  f25 := Tryd.func113.trans (congrArg some (by kernel_rfl))
  f26 := Tryd.func114.trans (congrArg some (by kernel_rfl))
  f27 := Tryd.func115.trans (congrArg some (by kernel_rfl))
  f28 := Tryd.func120.trans (congrArg some (by kernel_rfl))
  f29 := Tryd.func123.trans (congrArg some (by kernel_rfl))
  f30 := Tryd.func124.trans (congrArg some (by kernel_rfl))
  f31 := Tryd.func125.trans (congrArg some (by kernel_rfl))
  f32 := Tryd.func126.trans (congrArg some (by kernel_rfl))
  f33 := Tryd.func127.trans (congrArg some (by kernel_rfl))
  f34 := Tryd.func128.trans (congrArg some (by kernel_rfl))
  f35 := Tryd.func129.trans (congrArg some (by kernel_rfl))
  f36 := Tryd.func130.trans (congrArg some (by kernel_rfl))
  f37 := Tryd.func131.trans (congrArg some (by kernel_rfl))
  f38 := Tryd.func132.trans (congrArg some (by kernel_rfl))
  f39 := Tryd.func133.trans (congrArg some (by kernel_rfl))
  f40 := Tryd.func134.trans (congrArg some (by kernel_rfl))
  t0 := Tryd.underlying0
  a0 := Tryd.isAgg0
  z0 := Tryd.sizeOf0
  v0 := Tryd.zeroValue0
  i0 := by kernel_rfl
  t2 := Tryd.underlying2
  a2 := Tryd.isAgg2
  z2 := Tryd.sizeOf2
  v2 := Tryd.zeroValue2
  i2 := by kernel_rfl
  t3 := Tryd.underlying3
  a3 := Tryd.isAgg3
  z3 := Tryd.sizeOf3
  v3 := Tryd.zeroValue3
  i3 := by kernel_rfl
  t4 := Tryd.underlying4
  a4 := Tryd.isAgg4
  z4 := Tryd.sizeOf4
  v4 := Tryd.zeroValue4
  i4 := by kernel_rfl
  t5 := Tryd.underlying5
  a5 := Tryd.isAgg5
  z5 := Tryd.sizeOf5
  v5 := Tryd.zeroValue5
  i5 := by kernel_rfl
  t9 := Tryd.underlying9
  a9 := Tryd.isAgg9
  z9 := Tryd.sizeOf9
  v9 := Tryd.zeroValue9
  i9 := by kernel_rfl
  t20 := Tryd.underlying20
  a20 := Tryd.isAgg20
  z20 := Tryd.sizeOf20
  v20 := Tryd.zeroValue20
  i20 := by kernel_rfl
  t21 := Tryd.underlying21
  a21 := Tryd.isAgg21
  z21 := Tryd.sizeOf21
  v21 := Tryd.zeroValue21
  i21 := by kernel_rfl
  t22 := Tryd.underlying104
  a22 := Tryd.isAgg104
  z22 := Tryd.sizeOf104
  v22 := Tryd.zeroValue104
  i22 := by kernel_rfl
  t24 := Tryd.underlying83
  a24 := Tryd.isAgg83
  z24 := Tryd.sizeOf83
  v24 := Tryd.zeroValue83
  i24 := by kernel_rfl
  t25 := Tryd.underlying105
  a25 := Tryd.isAgg105
  z25 := Tryd.sizeOf105
  v25 := Tryd.zeroValue105
  i25 := by kernel_rfl
  t34 := Tryd.underlying131
  a34 := Tryd.isAgg131
  z34 := Tryd.sizeOf131
  v34 := Tryd.zeroValue131
  i34 := by kernel_rfl
  c34 := by kernel_rfl
  t36 := Tryd.underlying109
  a36 := Tryd.isAgg109
  z36 := Tryd.sizeOf109
  v36 := Tryd.zeroValue109
  i36 := by kernel_rfl
  t37 := Tryd.underlying39
  a37 := Tryd.isAgg39
  z37 := Tryd.sizeOf39
  v37 := Tryd.zeroValue39
  i37 := by kernel_rfl
  t39 := Tryd.underlying133
  a39 := Tryd.isAgg133
  z39 := Tryd.sizeOf133
  v39 := Tryd.zeroValue133
  i39 := by kernel_rfl
  t44 := Tryd.underlying143
  a44 := Tryd.isAgg143
  z44 := Tryd.sizeOf143
  v44 := Tryd.zeroValue143
  i44 := by kernel_rfl
  t47 := Tryd.underlying103
  a47 := Tryd.isAgg103
  z47 := Tryd.sizeOf103
  v47 := Tryd.zeroValue103
  i47 := by kernel_rfl
  t48 := Tryd.underlying150
  a48 := Tryd.isAgg150
  z48 := Tryd.sizeOf150
  v48 := Tryd.zeroValue150
  i48 := by kernel_rfl
  t50 := Tryd.underlying152
  a50 := Tryd.isAgg152
  z50 := Tryd.sizeOf152
  v50 := Tryd.zeroValue152
  i50 := by kernel_rfl
  t52 := Tryd.underlying157
  a52 := Tryd.isAgg157
  z52 := Tryd.sizeOf157
  v52 := Tryd.zeroValue157
  i52 := by kernel_rfl
  t55 := Tryd.underlying160
  a55 := Tryd.isAgg160
  z55 := Tryd.sizeOf160
  v55 := Tryd.zeroValue160
  i55 := by kernel_rfl
  t59 := Tryd.underlying163
  a59 := Tryd.isAgg163
  z59 := Tryd.sizeOf163
  v59 := Tryd.zeroValue163
  i59 := by kernel_rfl
  t60 := Tryd.underlying153
  a60 := Tryd.isAgg153
  z60 := Tryd.sizeOf153
  v60 := Tryd.zeroValue153
  i60 := by kernel_rfl
  t61 := Tryd.underlying164
  a61 := Tryd.isAgg164
  z61 := Tryd.sizeOf164
  t65 := Tryd.underlying167
  a65 := Tryd.isAgg167
  z65 := Tryd.sizeOf167
  v65 := Tryd.zeroValue167
  i65 := by kernel_rfl
  t66 := Tryd.underlying168
  a66 := Tryd.isAgg168
  z66 := Tryd.sizeOf168
  v66 := Tryd.zeroValue168
  i66 := by kernel_rfl
  t67 := Tryd.underlying89
  a67 := Tryd.isAgg89
  z67 := Tryd.sizeOf89
  v67 := Tryd.zeroValue89
  i67 := by kernel_rfl
  g0 := by kernel_rfl
  m0 := by kernel_rfl
  g1 := by kernel_rfl
  m1 := by kernel_rfl
  g2 := by kernel_rfl
  m2 := by kernel_rfl
  g3 := by kernel_rfl
  m3 := by kernel_rfl
  g4 := by kernel_rfl
  m4 := by kernel_rfl }
open Go.RowKit in
/-- strconv.ParseUint(s, 10, 64), AT EVERY STRING THAT SPELLS A uint64 ('Lib.parseUintB 64 s.data.toList = .ok u'): u, AND NO ERROR. (LAID: no walk: one application.) -/
theorem Tryd.strconv_ParseUint_10_at64_ok (s : ByteArray) (hmax : s.size ≤ 9223372036854775806) (u : Nat) (h : Lib.parseUintB 64 s.data.toList = .ok u) (w : World) :
    Calls Tryd.prog 65 #[.string s, .int .i64 10, .int .i64 64] w fun e w' => e = .returned (.tuple #[.int .u64 u, .nilIface]) ∧ (w' = w ∨ w' = Lib.bytesWorld w 5 s) := Any.strconv_ParseUint_10_at64_ok Tryd.laysPu14 s hmax u h w
open Go.RowKit in
/-- strconv.ParseUint(s, 10, 64), AT EVERY NUMERAL THAT NO uint64 HOLDS: THE GREATEST uint64, AND AN ERROR THAT IS NOT nil: a *NumError in a new block N: {Func: "ParseUint", Num: s's bytes, Err: what the variable ErrRange holds}. Of what was there nothing has turned. (LAID: no walk: one application.) -/
theorem Tryd.strconv_ParseUint_10_at64_range (s : ByteArray) (hlim : s.size ≤ 281474976710656) (h : Lib.parseUintB 64 s.data.toList = .range) (ev : Value) (w : World) (hv : w.cell? ⟨2, 0, none⟩ = some ev) (hev : ev = .nilIface ∨ ∃ te pe, ev = .iface te pe) :
    Calls Tryd.prog 65 #[.string s, .int .i64 10, .int .i64 64] w fun e w' => ∃ N, e = .returned (.tuple #[.int .u64 18446744073709551615, .iface 133 (.pointer (some ⟨N, 0, none⟩))]) ∧ w.heap.size ≤ N ∧ w'.heap[N]? = some (.cells #[.string ⟨#[80, 97, 114, 115, 101, 85, 105, 110, 116]⟩, .string s, ev] 143 (0, 0)) ∧ Below w.heap.size w w' := Any.strconv_ParseUint_10_at64_range Tryd.laysPu14 s hlim h ev w hv hev

end Go.Proofs
end

/-! ## text ExtTok1 -/
section
namespace Go.Proofs.YthmcapdakplhdaaDoor.Pr
open Go.RowKit Go.Proofs.YthmcapdakplhdaaDoorW.PrintWords Go.Proofs.YthmcapdakplhdaaDoorW.PrintLast Go.Proofs.YthmcapdakplhdaaDoorW.PrintMore
set_option linter.unusedVariables false
set_option linter.unusedSimpArgs false

/-- Is it a decimal digit? -/
def digB (c : UInt8) : Bool := decide (48 ≤ c.toNat) && decide (c.toNat ≤ 57)
/-- What token.isInt tells of a text's bytes. -/
def isIntB (l : List UInt8) : Bool := !l.isEmpty && !(decide (1 < l.length) && l.head? == some 48) && l.all digB && (match Lib.parseUintB 64 l with | .ok u => decide (u ≤ 9223372036854775807) | _ => false)
def token_isInt.f (a0 : ByteArray) : Option Bool := if a0.size ≤ 140737488355328 then some (isIntB a0.data.toList) else none

theorem data_len (s : ByteArray) : s.data.toList.length = s.size := by simp
theorem tl_data (s : ByteArray) : s.toList = s.data.toList := by
  have hl := data_len s
  have h : ∀ (m i : Nat) (r : List UInt8), s.size - i = m → ByteArray.toList.loop s i r = r.reverse ++ s.data.toList.drop i := by
    intro m
    induction m with
    | zero =>
      intro i r hm
      rw [ByteArray.toList.loop, if_neg (by omega), List.drop_eq_nil_of_le (by omega), List.append_nil]
    | succ m ih =>
      intro i r hm
      have hi : i < s.size := by omega
      rw [ByteArray.toList.loop, if_pos hi, ih (i + 1) _ (by omega)]
      have e : s.get! i = s.data.toList[i]'(by omega) := by
        unfold ByteArray.get!
        simp only [Array.getElem_toList]
        exact getElem!_pos s.data i hi
      rw [e, List.reverse_cons, List.append_assoc, List.singleton_append, ← List.drop_eq_getElem_cons]
  have := h s.size 0 [] (by omega)
  simpa [ByteArray.toList] using this

theorem all_upto_end {s : ByteArray} {pos : Nat} (h : ∀ i (hi : i < s.size), i < pos → digB s[i] = true) (hp : ¬ pos < s.size) : s.data.toList.all digB = true := by
  rw [List.all_eq_true]
  intro x hx
  obtain ⟨i, hi, rfl⟩ := List.getElem_of_mem hx
  have hi' : i < s.size := by simpa using hi
  exact h i hi' (by omega)
theorem not_all {s : ByteArray} {pos : Nat} (hp : pos < s.size) (h : digB s[pos] = false) : s.data.toList.all digB = false := by
  rw [List.all_eq_false]
  have hl := data_len s
  have e : s[pos] = s.data.toList[pos]'(by omega) := by simp only [Array.getElem_toList]; rfl
  exact ⟨s[pos], by rw [e]; exact List.getElem_mem _, by simp [h]⟩

theorem below_iter (w : World) (s : ByteArray) (p : Nat) : Below w.heap.size w (w.iter s p) := below_alloc (Below.refl _ _) _
theorem laid_iter {w : World} (h : LErr w) (s : ByteArray) (p : Nat) : LErr (w.iter s p) := h.below (below_iter w s p)
theorem below_bytes {w w1 : World} {t : TypeId} {s : ByteArray} (h : w1 = w ∨ w1 = Lib.bytesWorld w t s) : Below w.heap.size w w1 := by
  rcases h with rfl | rfl
  · exact Below.refl _ _
  · exact Lib.bytesWorld_below _ _ _

/-- strconv.ParseUint of a text that is digits alone: a number, or too great. -/
theorem pu_ends (l : List UInt8) (h : l.all digB = true) (hne : l ≠ []) : (∃ u, Lib.parseUintB 64 l = .ok u) ∨ Lib.parseUintB 64 l = .range := by
  have g : ∀ (l : List UInt8) (M acc : Nat), l.all digB = true → (∃ u, Lib.parseUintM M acc l = .ok u) ∨ Lib.parseUintM M acc l = .range := by
    intro l
    induction l with
    | nil => intro M acc _; exact .inl ⟨acc, rfl⟩
    | cons c r ih =>
      intro M acc h
      rw [List.all_cons, Bool.and_eq_true] at h
      have hc : 48 ≤ c.toNat ∧ c.toNat ≤ 57 := by simpa [digB] using h.1
      unfold Lib.parseUintM
      rw [if_pos hc]
      split
      · exact .inr rfl
      · split
        · exact .inr rfl
        · exact ih _ _ h.2
  unfold Lib.parseUintB
  rw [if_neg hne]
  exact g l _ _ h

set_option maxHeartbeats 1000000 in
theorem isInt_loop (s : ByteArray) (w : World) (hs : s.size ≤ 140737488355328) (hL : Aside0 (LErr w)) (hE1 : s.toList.isEmpty = false) (hE2 : (s.toList = []) = False) (hp0 : 0 < s.size)
    (hz : ((1 : Int) < (s.size : Int)) = False ∨ ((1 : Int) < (s.size : Int)) = True ∧ (((s[0]'hp0).toNat : Int) == 48) = false) :
    Calls Tryd.prog 49 #[.string s] w fun e w' => e = .returned (.bool (s.data.toList.all digB && (match Lib.parseUintB 64 s.data.toList with | .ok u => decide (u ≤ 9223372036854775807) | _ => false))) ∧ Below w.heap.size w w' := by
  obtain ⟨R, hR⟩ : ∃ R, R = (s.data.toList.all digB && (match Lib.parseUintB 64 s.data.toList with | .ok u => decide (u ≤ 9223372036854775807) | _ => false)) := ⟨_, rfl⟩
  rw [← hR]
  have HR := Aside0.mk hR
  clear hR
  rcases hz with hz | ⟨hz, hz2⟩
  all_goals
    go_enter Tryd.func49, Tryd.ntmps49
    go_wp2
    go_loopw [4] (fun v w' => ∃ (pos : Nat), w' = w.iter s pos ∧ Aside0 (∀ i (hi : i < s.size), i < pos → digB s[i] = true)) (fun _ w' => s.size - w'.iterPos w.heap.size)
    case atStart => exact ⟨0, rfl, ⟨fun i hi h => by omega⟩⟩
    case round =>
      obtain ⟨pos, rfl, HD⟩ := hrel
      by_cases hp : pos < s.size
      · have hnx : ∀ ty, (Instr.next (.pointer (some ⟨w.heap.size, 0, none⟩)) true ty).run Tryd.prog (w.iter s pos) = _ := fun ty => run_next_any w s pos ty hp
        by_cases hd : digB s[pos] = true
        · have hd2 : 48 ≤ s[pos].toNat ∧ s[pos].toNat ≤ 57 := by simpa [digB] using hd
          rw [decode_ascii s pos hp (by omega)] at hnx
          have k1 : ((s[pos].toNat : Int) < 48) = False := eq_false (by omega)
          have k2 : ((57 : Int) < (s[pos].toNat : Int)) = False := eq_false (by omega)
          have HX : Aside0 (digB s[pos] = true) := ⟨hd⟩
          clear hd hd2
          go_wp2
          go_roundw
          case rel =>
            refine ⟨pos + 1, rfl, ⟨fun i hi h => ?_⟩⟩
            by_cases e : i = pos
            · subst e; exact HX.out
            · exact HD.out i hi (by omega)
          case measure =>
            simp
            omega
        · have hd' : digB s[pos] = false := by simpa using hd
          have hr : R = false := by rw [HR.out, not_all hp hd']; rfl
          have hk : ((((Utf8.decode s pos).1 : Nat) : Int) < 48) = True ∨ ((((Utf8.decode s pos).1 : Nat) : Int) < 48) = False ∧ ((57 : Int) < (((Utf8.decode s pos).1 : Nat) : Int)) = True := by
            by_cases ha : s[pos].toNat < 128
            · rw [decode_ascii s pos hp ha]
              simp only [digB, Bool.and_eq_false_iff, decide_eq_false_iff_not] at hd'
              by_cases h1 : s[pos].toNat < 48
              · exact .inl (eq_true (by show ((s[pos].toNat : Nat) : Int) < 48; omega))
              · exact .inr ⟨eq_false (by show ¬ ((s[pos].toNat : Nat) : Int) < 48; omega), eq_true (by show (57 : Int) < ((s[pos].toNat : Nat) : Int); omega)⟩
            · have := (decode_high s pos hp (by omega)).1
              exact .inr ⟨eq_false (by omega), eq_true (by omega)⟩
          subst hr
          clear hd hd'
          rcases hk with hk | ⟨hk, hk2⟩
          all_goals
            go_wp2
            go_ret
            exact ⟨rfl, below_iter _ _ _⟩
      · have hnx : ∀ ty, (Instr.next (.pointer (some ⟨w.heap.size, 0, none⟩)) true ty).run Tryd.prog (w.iter s pos) = _ := fun ty => run_next_end w s pos ty hp
        have hall := all_upto_end HD.out hp
        have hne : s.data.toList ≠ [] := fun e => by have := data_len s; rw [e] at this; simp at this; omega
        obtain ⟨g, ev, hg, hv, hev⟩ := laid_iter hL.out s pos
        have hr := HR.out
        rw [hall, Bool.true_and] at hr
        rcases pu_ends _ hall hne with ⟨u, hu⟩ | hu
        · rw [hu] at hr
          have HU := Aside0.mk hu
          clear hall hne hg hv hev hu
          by_cases hb : u ≤ 9223372036854775807
          · have hr2 : R = true := by rw [hr]; simpa using hb
            subst hr2
            have hb2 : ((u : Int) ≤ 9223372036854775807) = True := eq_true (by omega)
            clear hr hb
            go_wp2_with (go_at_call 65; (with_reducible refine (Tryd.strconv_ParseUint_10_at64_ok s (by omega) u HU.out _).mono ?_); rintro e w1 ⟨rfl, hw1⟩)
            go_ret
            exact ⟨rfl, (below_iter _ _ _).trans ((below_bytes hw1).mono (by simp [World.iter]))⟩
          · have hr2 : R = false := by rw [hr]; simpa using hb
            subst hr2
            have hb2 : ((u : Int) ≤ 9223372036854775807) = False := eq_false (by omega)
            clear hr hb
            go_wp2_with (go_at_call 65; (with_reducible refine (Tryd.strconv_ParseUint_10_at64_ok s (by omega) u HU.out _).mono ?_); rintro e w1 ⟨rfl, hw1⟩)
            go_ret
            exact ⟨rfl, (below_iter _ _ _).trans ((below_bytes hw1).mono (by simp [World.iter]))⟩
        · rw [hu] at hr
          have hr2 : R = false := hr
          subst hr2
          have HU := Aside0.mk hu
          have HE := Aside0.mk hev
          have hgg : g = 2 := by rw [show Tryd.prog.globalNamed "strconv.ErrRange" = some 2 by kernel_rfl] at hg; exact (Option.some.inj hg).symm
          have HV := Aside0.mk hv
          rw [hgg] at HV
          clear hr hall hne hg hv hev hu hgg
          go_wp2_with (go_at_call 65; (with_reducible refine (Tryd.strconv_ParseUint_10_at64_range s (by omega) HU.out ev _ HV.out HE.out).mono ?_); rintro e w1 ⟨N, rfl, hN, hn, hw1⟩)
          go_ret
          exact ⟨rfl, (below_iter _ _ _).trans (hw1.mono (by simp [World.iter]))⟩

theorem token_isInt.calls (a0 : ByteArray) (r : Bool) (w : World) (HL_LErr : Aside0 (LErr w)) (h : token_isInt.f a0 = some r) :
    Calls Tryd.prog 49 #[.string a0] w fun e w' => e = .returned (.bool r) ∧ Below w.heap.size w w' := by
  unfold token_isInt.f at h
  by_cases hs : a0.size ≤ 140737488355328
  · rw [if_pos hs] at h
    obtain rfl := Option.some.inj h
    clear h
    have hl := data_len a0
    by_cases h0 : a0.size = 0
    · have hd : a0.data.toList = [] := List.eq_nil_of_length_eq_zero (by omega)
      have ht : a0.toList = [] := by rw [tl_data]; exact hd
      have hr : isIntB a0.data.toList = false := by rw [hd]; rfl
      rw [hr]
      clear hr hd hl
      go_enter Tryd.func49, Tryd.ntmps49
      go_wp2
      go_ret
      exact ⟨rfl, Below.refl _ _⟩
    · have hp0 : 0 < a0.size := by omega
      have hne : a0.data.toList ≠ [] := fun e => by rw [e] at hl; simp at hl; omega
      have hE1 : a0.toList.isEmpty = false := by rw [tl_data]; simpa using hne
      have hE2 : (a0.toList = []) = False := by rw [tl_data]; exact eq_false hne
      have hq : a0.data.toList.isEmpty = false := by simpa using hne
      have h00 : a0.data.toList.head? = some a0[0] := by
        rw [List.head?_eq_getElem?, List.getElem?_eq_getElem (by omega)]
        simp only [Array.getElem_toList]
        rfl
      have h48 : (a0.data.toList.head? == some 48) = (((a0[0]).toNat : Int) == 48) := by
        rw [h00, Bool.eq_iff_iff]
        simp only [beq_iff_eq, Option.some.injEq]
        constructor
        · intro e; rw [e]; rfl
        · intro e; exact UInt8.toNat_inj.mp (by show _ = 48; omega)
      by_cases h1 : 1 < a0.size
      · by_cases h2 : (((a0[0]).toNat : Int) == 48) = true
        · have hr : isIntB a0.data.toList = false := by unfold isIntB; rw [h48, h2, hq, hl]; simp [h1]
          rw [hr]
          have k1 : ((1 : Int) < (a0.size : Int)) = True := eq_true (by omega)
          clear hr hq h00 h48 hne hl h0
          go_enter Tryd.func49, Tryd.ntmps49
          go_wp2
          go_ret
          exact ⟨rfl, Below.refl _ _⟩
        · have h2' : (((a0[0]).toNat : Int) == 48) = false := by simpa using h2
          have hr : isIntB a0.data.toList = (a0.data.toList.all digB && (match Lib.parseUintB 64 a0.data.toList with | .ok u => decide (u ≤ 9223372036854775807) | _ => false)) := by unfold isIntB; rw [h48, h2', hq]; simp
          rw [hr]
          exact isInt_loop a0 w hs HL_LErr hE1 hE2 hp0 (.inr ⟨eq_true (by omega), h2'⟩)
      · have hr : isIntB a0.data.toList = (a0.data.toList.all digB && (match Lib.parseUintB 64 a0.data.toList with | .ok u => decide (u ≤ 9223372036854775807) | _ => false)) := by unfold isIntB; rw [hq, hl]; simp [h1]
        rw [hr]
        exact isInt_loop a0 w hs HL_LErr hE1 hE2 hp0 (.inl (eq_false (by omega)))
  · rw [if_neg hs] at h
    cases h
end Go.Proofs.YthmcapdakplhdaaDoor.Pr
end

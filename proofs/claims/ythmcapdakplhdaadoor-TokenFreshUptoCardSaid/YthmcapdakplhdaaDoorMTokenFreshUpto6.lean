/-
Part 6 of the proof of the law TokenFreshUpto: texts PuR2, PuR3, PuR5, PuR4, PuR6, PuR7, PureTokenFreshU.
-/
import Derived.Test.YthmcapdakplhdaaDoorMTokenFreshUpto3
import Derived.Test.YthmcapdakplhdaaDoorMTokenFreshUpto4
import Derived.Test.YthmcapdakplhdaaDoorMTokenFreshUpto5
/-! ## text PuR2 -/
section
/- The document's scanner on lists of bytes, part 2: strings, signs. -/
namespace Go.Proofs.YthmcapdakplhdaaDoor.Pu
open Go Go.RowKit Go.Proofs.YthmcapdakplhdaaDoor.Pr Go.Proofs.YthmcapdakplhdaaDoorW.PrintWords Go.Proofs.YthmcapdakplhdaaDoorW.PrintLast Go.Proofs.YthmcapdakplhdaaDoorW.PrintMore
set_option linter.unusedVariables false
set_option linter.unusedSimpArgs false
/-- What an escape stands for, as the document's function tells it. -/
def chE (t : List UInt8) : Int × Int × Int × Int :=
  if (escL t).2.2 = 0 then ((escL t).1, (escL t).2.1, 0, 0) else (0, 0, (if (escL t).2.2 = 52 then -1 else 0), (escL t).2.2)
theorem bt_at (pre : List UInt8) (a c : UInt8) (t l : List UInt8) (h : pre ++ a :: c :: t = l) : bt (B l) ((pre.length + 1 : Nat) : Int) = (c.toNat : Int) := by
  have := bt_mid (pre ++ [a]) c t
  rw [List.length_append, List.length_singleton, List.append_assoc, List.singleton_append, h] at this
  exact this
theorem bt_at2 (pre : List UInt8) (a b c : UInt8) (t l : List UInt8) (h : pre ++ a :: b :: c :: t = l) : bt (B l) ((pre.length + 2 : Nat) : Int) = (c.toNat : Int) := by
  have := bt_mid (pre ++ [a, b]) c t
  rw [List.length_append, List.append_assoc] at this
  simp only [List.length_cons, List.length_nil, List.cons_append, List.nil_append] at this
  rw [h] at this
  exact this
theorem bt_at3 (pre : List UInt8) (a b c d : UInt8) (t l : List UInt8) (h : pre ++ a :: b :: c :: d :: t = l) : bt (B l) ((pre.length + 3 : Nat) : Int) = (d.toNat : Int) := by
  have := bt_mid (pre ++ [a, b, c]) d t
  rw [List.length_append, List.append_assoc] at this
  simp only [List.length_cons, List.length_nil, List.cons_append, List.nil_append] at this
  rw [h] at this
  exact this
/-- The two digits. -/
theorem chx_ev (l : List UInt8) (hl : l.length ≤ 4096) (pre : List UInt8) (a b : UInt8) (t : List UInt8) (h : pre ++ a :: b :: t = l) :
    Ev (fun k => refrainref5_character.l0 k (B l) (pre.length : Int) 0 2) (if (hexL t).2.2 = 0 then ((hexL t).1, (hexL t).2.1, 0, 0) else (0, 0, (if (hexL t).2.2 = 52 then -1 else 0), (hexL t).2.2)) := by
  have hz : l.length = pre.length + (t.length + 2) := by rw [← h]; simp
  have e2 := wnn pre.length 2 (by omega)
  have e3 := wnn pre.length 3 (by omega)
  match t, h, hz with
  | [], h, hz =>
    refine Ev.step (f := fun _ => some _) (fun k => ?_) (Ev.now _)
    simp only [refrainref5_character.l0]
    rw [if_pos (by decide), if_pos (by rw [B_size]; rw [show wrap64 ((pre.length : Int) + 2) = ((pre.length + 2 : Nat) : Int) from e2]; simp at hz; omega)]
    rfl
  | c :: t, h, hz =>
    have hc := bt_at2 pre a b c t l h
    have hx := rhex_ev c
    have hle := hexN_le c.toNat c.toNat_lt
    by_cases hn : hexN c.toNat < 0
    · refine Ev.step (f := fun k => (refrainref5_hex.f k (c.toNat : Int)).bind fun t550 => (if t550 < 0 then (some (0, 0, 0, 51)) else (refrainref5_character.l0 k (B l) (pre.length : Int) (wrap64 ((wrap64 (16 * 0)) + t550)) (wrap64 (2 + 1))))) (fun k => ?_) (Ev.bind hx ?_)
      · simp only [refrainref5_character.l0]
        rw [show wrap64 ((pre.length : Int) + 2) = ((pre.length + 2 : Nat) : Int) from e2, if_pos (by decide), if_neg (by rw [B_size]; simp at hz; omega), if_pos (by omega), if_pos (by rw [B_size]; simp at hz; omega), hc]
      · refine Ev.congr (fun k => ?_) (Ev.now _)
        rw [if_pos hn]
        have : hexL (c :: t) = (0, 0, 51) := by
          cases t with
          | nil => rw [hexL, if_pos hn]
          | cons d t => rw [hexL, if_pos hn]
        rw [this]; rfl
    · refine Ev.step (f := fun k => (refrainref5_hex.f k (c.toNat : Int)).bind fun t550 => (if t550 < 0 then (some (0, 0, 0, 51)) else (refrainref5_character.l0 k (B l) (pre.length : Int) (wrap64 ((wrap64 (16 * 0)) + t550)) (wrap64 (2 + 1))))) (fun k => ?_) (Ev.bind hx ?_)
      · simp only [refrainref5_character.l0]
        rw [show wrap64 ((pre.length : Int) + 2) = ((pre.length + 2 : Nat) : Int) from e2, if_pos (by decide), if_neg (by rw [B_size]; simp at hz; omega), if_pos (by omega), if_pos (by rw [B_size]; simp at hz; omega), hc]
      · have ew : wrap64 ((wrap64 (16 * 0)) + hexN c.toNat) = hexN c.toNat := by unfold wrap64; omega
        have ew2 : wrap64 ((2 : Int) + 1) = 3 := by unfold wrap64; omega
        refine Ev.congr (g := _) (f := fun k => refrainref5_character.l0 k (B l) (pre.length : Int) (hexN c.toNat) 3) (fun k => by rw [if_neg hn, ew, ew2]) ?_
        match t, h, hz with
        | [], h, hz =>
          refine Ev.step (f := fun _ => some _) (fun k => ?_) (Ev.now _)
          simp only [refrainref5_character.l0]
          rw [if_pos (by decide), show wrap64 ((pre.length : Int) + 3) = ((pre.length + 3 : Nat) : Int) from e3, if_pos (by rw [B_size]; simp at hz; omega), hexL, if_neg hn]
          rfl
        | d :: t, h, hz =>
          have hd := bt_at3 pre a b c d t l h
          have hy := rhex_ev d
          have hle2 := hexN_le d.toNat d.toNat_lt
          refine Ev.step (f := fun k => (refrainref5_hex.f k (d.toNat : Int)).bind fun t550 => (if t550 < 0 then (some (0, 0, 0, 51)) else (refrainref5_character.l0 k (B l) (pre.length : Int) (wrap64 ((wrap64 (16 * hexN c.toNat)) + t550)) (wrap64 (3 + 1))))) (fun k => ?_) (Ev.bind hy ?_)
          · simp only [refrainref5_character.l0]
            rw [show wrap64 ((pre.length : Int) + 3) = ((pre.length + 3 : Nat) : Int) from e3, if_pos (by decide), if_neg (by rw [B_size]; simp at hz; omega), if_pos (by omega), if_pos (by rw [B_size]; simp at hz; omega), hd]
          · rw [hexL, if_neg hn]
            by_cases hm : hexN d.toNat < 0
            · rw [if_pos hm]
              refine Ev.congr (fun k => ?_) (Ev.now _)
              rw [if_pos hm]
              rfl
            · rw [if_neg hm]
              have ew3 : wrap64 ((3 : Int) + 1) = 4 := by unfold wrap64; omega
              have ew4 : wrap64 ((wrap64 (16 * hexN c.toNat)) + hexN d.toNat) = hexN c.toNat * 16 + hexN d.toNat := by unfold wrap64; omega
              refine Ev.congr (g := _) (f := fun k => refrainref5_character.l0 k (B l) (pre.length : Int) (hexN c.toNat * 16 + hexN d.toNat) 4) (fun k => by rw [if_neg hm, ew3, ew4]) ?_
              refine Ev.step (f := fun _ => some _) (fun k => ?_) (Ev.now _)
              simp only [refrainref5_character.l0]
              rw [if_neg (by decide)]
              rfl
/-- Behind a backslash. -/
theorem che_ev (l : List UInt8) (hl : l.length ≤ 4096) (pre : List UInt8) (t : List UInt8) (h : pre ++ 92 :: t = l) : Ev (fun k => refrainref5_character.f k (B l) (pre.length : Int)) (chE t) := by
  have hz : l.length = pre.length + (t.length + 1) := by rw [← h]; simp
  have hb : bt (B l) (pre.length : Int) = 92 := by rw [← h]; exact bt_mid pre 92 t
  have e1 := w1 pre.length (by omega)
  have k0 : Ev (fun k => refrainref5_character.j0 k (B l) (pre.length : Int) 92 false) (chE t) := by
    unfold chE
    match t, h, hz with
    | [], h, hz =>
      refine Ev.step (f := fun _ => some _) (fun k => ?_) (Ev.now _)
      simp only [refrainref5_character.j0]
      rw [if_neg (by decide), if_pos trivial, e1, if_pos (by rw [B_size]; simp at hz; omega)]
      rfl
    | c :: t, h, hz =>
      have hc := bt_at pre 92 c t l h
      have hg : ¬ (((pre.length + 1 : Nat) : Int) ≥ ((B l).size : Int)) := by rw [B_size]; simp at hz; omega
      have hlt : ((pre.length + 1 : Nat) : Int) < ((B l).size : Int) := by rw [B_size]; simp at hz; omega
      have key : ∀ x : Bool, (x = decide (c.toNat = 34 ∨ c.toNat = 92)) → Ev (fun k => refrainref5_character.j1 k (B l) (pre.length : Int) (c.toNat : Int) x) (if (escL (c :: t)).2.2 = 0 then ((escL (c :: t)).1, (escL (c :: t)).2.1, 0, 0) else (0, 0, (if (escL (c :: t)).2.2 = 52 then -1 else 0), (escL (c :: t)).2.2)) := by
        intro x hx
        rw [escL]
        by_cases hq : c.toNat = 34 ∨ c.toNat = 92
        · rw [if_pos hq]
          rw [decide_eq_true hq] at hx
          subst hx
          refine Ev.step (f := fun _ => some _) (fun k => ?_) (Ev.now _)
          simp only [refrainref5_character.j1]
          rw [if_pos trivial, e1, if_pos (by omega), if_pos hlt, hc]
          rfl
        · rw [if_neg hq]
          rw [decide_eq_false hq] at hx
          subst hx
          by_cases h110 : c.toNat = 110
          · rw [if_pos h110]
            refine Ev.step (f := fun _ => some _) (fun k => ?_) (Ev.now _)
            simp only [refrainref5_character.j1]
            rw [if_neg (by decide), if_pos (by omega)]
            rfl
          · rw [if_neg h110]
            by_cases h116 : c.toNat = 116
            · rw [if_pos h116]
              refine Ev.step (f := fun _ => some _) (fun k => ?_) (Ev.now _)
              simp only [refrainref5_character.j1]
              rw [if_neg (by decide), if_neg (by omega), if_pos (by omega)]
              rfl
            · rw [if_neg h116]
              by_cases h120 : c.toNat = 120
              · rw [if_pos h120]
                refine Ev.step (fun k => ?_) (chx_ev l hl pre 92 c t h)
                simp only [refrainref5_character.j1]
                rw [if_neg (by decide), if_neg (by omega), if_neg (by omega), if_pos (by omega)]
              · rw [if_neg h120]
                refine Ev.step (f := fun _ => some _) (fun k => ?_) (Ev.now _)
                simp only [refrainref5_character.j1]
                rw [if_neg (by decide), if_neg (by omega), if_neg (by omega), if_neg (by omega)]
                rfl
      by_cases h34 : c.toNat = 34
      · refine Ev.step (fun k => ?_) (key true (by rw [decide_eq_true (Or.inl h34)]))
        simp only [refrainref5_character.j0]
        rw [if_neg (by decide), if_pos trivial, e1, if_neg hg, if_pos (by omega), if_pos hlt, hc, if_pos (by omega), h34]
        rfl
      · refine Ev.step (fun k => ?_) (key ((c.toNat : Int) == 92) (by rw [Bool.eq_iff_iff, beq_iff_eq, decide_eq_true_eq]; omega))
        simp only [refrainref5_character.j0]
        rw [if_neg (by decide), if_pos trivial, e1, if_neg hg, if_pos (by omega), if_pos hlt, hc, if_neg (by omega)]
  refine Ev.congr (fun k => ?_) k0
  unfold refrainref5_character.f
  rw [if_pos (by omega), if_pos (by rw [B_size]; omega), hb, if_neg (by decide)]
  rfl
/-- A byte that is no backslash. -/
theorem chp_ev (l : List UInt8) (hl : l.length ≤ 4096) (pre : List UInt8) (c : UInt8) (t : List UInt8) (h : pre ++ c :: t = l) (h92 : c.toNat ≠ 92) :
    Ev (fun k => refrainref5_character.f k (B l) (pre.length : Int)) (if c.toNat < 32 ∨ 126 < c.toNat then (0, 0, 0, 50) else ((c.toNat : Int), 1, 0, 0)) := by
  have hz : l.length = pre.length + (t.length + 1) := by rw [← h]; simp
  have hb : bt (B l) (pre.length : Int) = (c.toNat : Int) := by rw [← h]; exact bt_mid pre c t
  have key : ∀ x : Bool, x = decide (c.toNat < 32 ∨ 126 < c.toNat) → Ev (fun k => refrainref5_character.j0 k (B l) (pre.length : Int) (c.toNat : Int) x) (if c.toNat < 32 ∨ 126 < c.toNat then (0, 0, 0, 50) else ((c.toNat : Int), 1, 0, 0)) := by
    intro x hx
    refine Ev.step (f := fun _ => some _) (fun k => ?_) (Ev.now _)
    simp only [refrainref5_character.j0]
    by_cases hq : c.toNat < 32 ∨ 126 < c.toNat
    · rw [decide_eq_true hq] at hx
      rw [if_pos hx, if_pos hq]
    · rw [decide_eq_false hq] at hx
      rw [if_neg (by rw [hx]; decide), if_neg (by omega), if_neg hq]
  by_cases h1 : c.toNat < 32
  · refine Ev.congr (fun k => ?_) (key true (by rw [decide_eq_true (Or.inl h1)]))
    unfold refrainref5_character.f
    rw [if_pos (by omega), if_pos (by rw [B_size]; omega), hb, if_pos (by omega)]
  · refine Ev.congr (fun k => ?_) (key (decide ((c.toNat : Int) > 126)) (by rw [Bool.eq_iff_iff, decide_eq_true_eq, decide_eq_true_eq]; omega))
    unfold refrainref5_character.f
    rw [if_pos (by omega), if_pos (by rw [B_size]; omega), hb, if_neg (by omega)]
/-- What str answers where unquote does. -/
def strT (frm : Nat) (u : ByteArray × Int × Int) : Int × ByteArray × Int × Int × Int × Int :=
  if u.2.2 = 0 then (3, u.1, (frm : Int), u.2.1, 0, 0) else (0, ⟨#[]⟩, 0, 0, u.2.1, u.2.2)
theorem str_ev (l : List UInt8) (hl : l.length ≤ 4096) (frm : Nat) : ∀ (f : Nat) (rest pre : List UInt8) (acc : List Int), pre ++ rest = l → rest.length < f → acc.length ≤ 256 →
    Ev (fun k => refrainref5_str.l0 k (B l) (frm : Int) acc (pre.length : Int)) (strT frm (unqL f rest acc pre.length frm)) := by
  intro f
  induction f with
  | zero => intro rest pre acc _ h; omega
  | succ f ih =>
    intro rest pre acc h hf ha
    match rest, h, hf with
    | [], h, hf =>
      have hz : l.length = pre.length := by rw [← h]; simp
      refine Ev.step (f := fun _ => some _) (fun k => ?_) (Ev.now _)
      simp only [refrainref5_str.l0]
      rw [if_neg (by rw [B_size]; omega)]
      rfl
    | c :: t, h, hf =>
      have hz : l.length = pre.length + (t.length + 1) := by rw [← h]; simp
      have hb : bt (B l) (pre.length : Int) = (c.toNat : Int) := by rw [← h]; exact bt_mid pre c t
      have ht : t.length < f := by rw [List.length_cons] at hf; omega
      rw [unqL]
      by_cases h34 : c.toNat = 34
      · rw [if_pos h34]
        refine Ev.step (f := fun _ => some _) (fun k => ?_) (Ev.now _)
        simp only [refrainref5_str.l0]
        rw [if_pos (by rw [B_size]; omega), if_pos (by omega), hb, if_pos (by omega), w1 _ (by omega)]
        rfl
      · rw [if_neg h34]
        -- behind a character
        have good : ∀ (x n : Int) (m : Nat) (rest' : List UInt8), n = (m : Int) → 1 ≤ m → (c :: t).drop m = rest' → m ≤ t.length + 1 → Ev (fun k => refrainref5_str.j1 k (B l) (frm : Int) acc (pre.length : Int) x n 0 false)
            (strT frm (if acc.length = 256 then (B [], (frm : Int), 51) else unqL f rest' (acc ++ [x]) (pre.length + m) frm)) := by
          intro x n m rest' hn hm hr hmle
          subst hn
          by_cases h256 : acc.length = 256
          · rw [if_pos h256]
            refine Ev.step (f := fun _ => some _) (fun k => ?_) (Ev.now _)
            simp only [refrainref5_str.j1]
            rw [if_neg (by decide), if_pos (by decide), if_pos (by omega), Option.bind_some, if_pos (by rw [List.length_append, List.length_singleton]; omega)]
            rfl
          · rw [if_neg h256]
            have hp : (pre ++ (c :: t).take m) ++ rest' = l := by rw [← hr, List.append_assoc, List.take_append_drop, h]
            have hlen : (pre ++ (c :: t).take m).length = pre.length + m := by rw [List.length_append, List.length_take, List.length_cons]; omega
            have ih2 := ih rest' (pre ++ (c :: t).take m) (acc ++ [x]) hp (by rw [← hr, List.length_drop, List.length_cons]; omega) (by rw [List.length_append, List.length_singleton]; omega)
            rw [hlen] at ih2
            refine Ev.step (fun k => ?_) ih2
            simp only [refrainref5_str.j1]
            rw [if_neg (by decide), if_pos (by decide), if_pos (by omega), Option.bind_some, if_neg (by rw [List.length_append, List.length_singleton]; omega), wnn _ _ (by omega)]
        have bad : ∀ (x n e : Int) (b : Bool), e ≠ 0 → Ev (fun k => refrainref5_str.j1 k (B l) (frm : Int) acc (pre.length : Int) x n e b) (0, (⟨#[]⟩ : ByteArray), 0, 0, (if b = true then (frm : Int) else (pre.length : Int)), e) := by
          intro x n e b he
          refine Ev.step (f := fun _ => some _) (fun k => ?_) (Ev.now _)
          simp only [refrainref5_str.j1]
          cases b
          · rw [if_neg (by decide), if_neg he]; rfl
          · rw [if_pos rfl]; rfl
        have step : ∀ (ch : Int × Int × Int × Int) (R), Ev (fun k => refrainref5_character.f k (B l) (pre.length : Int)) ch → Ev (fun k => refrainref5_str.j1 k (B l) (frm : Int) acc (pre.length : Int) ch.1 ch.2.1 ch.2.2.2 (if ch.2.2.2 = 0 then false else decide (ch.2.2.1 < 0))) R → Ev (fun k => refrainref5_str.l0 k (B l) (frm : Int) acc (pre.length : Int)) R := by
          intro ch R h1 h2
          refine Ev.step (f := fun k => (refrainref5_character.f k (B l) (pre.length : Int)).bind fun bt552 => (if bt552.2.2.2 = 0 then (refrainref5_str.j1 k (B l) (frm : Int) acc (pre.length : Int) bt552.1 bt552.2.1 bt552.2.2.2 false) else (refrainref5_str.j1 k (B l) (frm : Int) acc (pre.length : Int) bt552.1 bt552.2.1 bt552.2.2.2 (decide (bt552.2.2.1 < 0))))) (fun k => ?_) (Ev.bind h1 ?_)
          · simp only [refrainref5_str.l0]
            rw [if_pos (by rw [B_size]; omega), if_pos (by omega), hb, if_neg (by omega)]
          · refine Ev.congr (fun k => ?_) h2
            split <;> rfl
        by_cases hbad : c.toNat < 32 ∨ 126 < c.toNat
        · rw [if_pos hbad]
          have h1 := chp_ev l hl pre c t h (by omega)
          rw [if_pos hbad] at h1
          exact step _ _ h1 (bad 0 0 50 false (by decide))
        · rw [if_neg hbad]
          by_cases h92 : c.toNat = 92
          · rw [if_pos h92]
            have hc92 : c = 92 := UInt8.toNat_inj.1 h92
            subst hc92
            have h1 := che_ev l hl pre t h
            by_cases h0 : (escL t).2.2 = 0
            · rw [if_pos h0]
              unfold chE at h1
              rw [if_pos h0] at h1
              obtain ⟨m, hm, hm2, hm3⟩ := esc_len t h0
              rw [hm, Int.toNat_natCast]
              rw [hm] at h1
              exact step _ _ h1 (good (escL t).1 (m : Int) m _ rfl (by omega) rfl (by omega))
            · rw [if_neg h0]
              unfold chE at h1
              rw [if_neg h0] at h1
              by_cases h52 : (escL t).2.2 = 52
              · rw [if_pos h52, h52] at h1
                rw [if_pos h52]
                exact step _ _ h1 (bad 0 0 52 true (by decide))
              · rw [if_neg h52] at h1
                rw [if_neg h52]
                have h2 := bad 0 0 (escL t).2.2 false h0
                have h3 := step _ (strT frm (B [], (pre.length : Int), (escL t).2.2)) h1 (by
                  refine Ev.congr (fun k => ?_) (show Ev _ (strT frm (B [], (pre.length : Int), (escL t).2.2)) from by
                    unfold strT
                    rw [if_neg h0]
                    exact h2)
                  rw [if_neg h0]
                  rfl)
                exact h3
          · rw [if_neg h92]
            have h1 := chp_ev l hl pre c t h h92
            rw [if_neg hbad] at h1
            exact step _ _ h1 (good (c.toNat : Int) 1 1 t rfl (Nat.le_refl _) rfl (by omega))
end Go.Proofs.YthmcapdakplhdaaDoor.Pu
end

/-! ## text PuR3 -/
section
/- The document's scanner on lists of bytes, part 3: one token, blanks and comments, the whole. -/
namespace Go.Proofs.YthmcapdakplhdaaDoor.Pu
open Go Go.RowKit Go.Proofs.YthmcapdakplhdaaDoor.Pr Go.Proofs.YthmcapdakplhdaaDoorW.PrintWords Go.Proofs.YthmcapdakplhdaaDoorW.PrintLast Go.Proofs.YthmcapdakplhdaaDoorW.PrintMore
set_option linter.unusedVariables false
set_option linter.unusedSimpArgs false
/-- The first of the signs with which a text begins. -/
def fstS : List ByteArray → List UInt8 → Option ByteArray
  | [], _ => none
  | w :: ws, r => if r.take w.data.toList.length = w.data.toList then some w else fstS ws r
def fstT (pos : Nat) : Option ByteArray → Int × ByteArray × Int × Int × Int × Int
  | none => (0, ⟨#[]⟩, 0, 0, (pos : Int), 50)
  | some w => (4, w, (pos : Int), ((pos + w.size : Nat) : Int), 0, 0)
theorem rdB (xs : List ByteArray) (i : Nat) (w : ByteArray) (ws : List ByteArray) (h : xs.drop i = w :: ws) : rdOf ByteArray.empty xs (i : Int) = w := by
  show xs.getD _ _ = w
  rw [Int.toNat_natCast, List.getD_eq_getElem?_getD]
  have : xs[i]? = some w := by
    have h2 : (xs.drop i)[0]? = some w := by rw [h]; rfl
    rwa [List.getElem?_drop, Nat.add_zero] at h2
  rw [this]; rfl
theorem signs_ev (l : List UInt8) (hl : l.length ≤ 4096) (pre rest : List UInt8) (h : pre ++ rest = l) (xs : List ByteArray) (hx : xs.length ≤ 1000) (hw : ∀ w ∈ xs, w.size ≤ 1000) : ∀ (ws : List ByteArray) (i : Nat), xs.drop i = ws → i + ws.length = xs.length →
    Ev (fun k => refrainref5_one.l0 k (B l) (pre.length : Int) xs (i : Int)) (fstT pre.length (fstS ws rest))
  | [], i, hd, hi => by
    refine Ev.step (f := fun _ => some _) (fun k => ?_) (Ev.now _)
    simp only [refrainref5_one.l0]
    rw [if_neg (by simp at hi; omega)]
    rfl
  | w :: ws, i, hd, hi => by
    have hz : l.length = pre.length + rest.length := by rw [← h]; simp
    rw [List.length_cons] at hi
    have hr := rdB xs i w ws hd
    have hd2 : xs.drop (i + 1) = ws := by
      have := congrArg (List.drop 1) hd
      rwa [List.drop_drop, List.drop_one, List.tail_cons] at this
    have hws : w.size ≤ 1000 := hw w (List.mem_of_mem_drop (hd ▸ List.mem_cons_self))
    have ih := signs_ev l hl pre rest h xs hx hw ws (i + 1) hd2 (by omega)
    have hdl := data_len w
    have next : ∀ (hno : ¬ (rest.take w.data.toList.length = w.data.toList)), Ev (fun k => refrainref5_one.l0 k (B l) (pre.length : Int) xs (wrap64 ((i : Int) + 1))) (fstT pre.length (fstS (w :: ws) rest)) := by
      intro hno
      rw [fstS, if_neg hno, w1 i (by omega)]
      exact ih
    by_cases hs : pre.length + w.size ≤ l.length
    · have e := wnn pre.length w.size (by omega)
      have he : ((B l).extract (pre.length : Int).toNat ((pre.length + w.size : Nat) : Int).toNat).toList = rest.take w.data.toList.length := by
        rw [Int.toNat_natCast, Int.toNat_natCast, ← h, B_ext_mid, B_toList, hdl]
      by_cases hq : rest.take w.data.toList.length = w.data.toList
      · refine Ev.step (f := fun _ => some _) (fun k => ?_) (Ev.now _)
        simp only [refrainref5_one.l0]
        rw [if_pos (by omega), if_pos (by omega), hr, e, if_pos (by rw [B_size]; omega), if_pos (by omega), if_pos (by omega), he, tl_data, if_pos hq, fstS, if_pos hq]
        rfl
      · refine Ev.step (fun k => ?_) (next hq)
        simp only [refrainref5_one.l0]
        rw [if_pos (by omega), if_pos (by omega), hr, e, if_pos (by rw [B_size]; omega), if_pos (by omega), if_pos (by omega), he, tl_data, if_neg hq]
    · have e := wnn pre.length w.size (by omega)
      refine Ev.step (fun k => ?_) (next (fun hq => by
        have := congrArg List.length hq
        rw [List.length_take] at this
        omega))
      simp only [refrainref5_one.l0]
      rw [if_pos (by omega), if_pos (by omega), hr, e, if_neg (by rw [B_size]; omega)]
def sgnsB : List ByteArray := [(⟨#[46, 46]⟩ : ByteArray), (⟨#[33, 61]⟩ : ByteArray), (⟨#[60, 61]⟩ : ByteArray), (⟨#[62, 61]⟩ : ByteArray), (⟨#[40]⟩ : ByteArray), (⟨#[41]⟩ : ByteArray), (⟨#[91]⟩ : ByteArray), (⟨#[93]⟩ : ByteArray), (⟨#[123]⟩ : ByteArray), (⟨#[125]⟩ : ByteArray), (⟨#[44]⟩ : ByteArray), (⟨#[46]⟩ : ByteArray), (⟨#[43]⟩ : ByteArray), (⟨#[45]⟩ : ByteArray), (⟨#[42]⟩ : ByteArray), (⟨#[61]⟩ : ByteArray), (⟨#[60]⟩ : ByteArray), (⟨#[62]⟩ : ByteArray), (⟨#[33]⟩ : ByteArray)]
/-- The first sign, by what stands at the front. -/
def sgn2 (n m : Nat) : Nat := if n = 33 ∨ n = 60 ∨ n = 62 then (if m = 61 then 2 else 1) else if n = 46 then (if m = 46 then 2 else 1) else if signN n then 1 else 0
theorem fst_one : ∀ n : Nat, n < 256 → fstS sgnsB [UInt8.ofNat n] = (if signN n then some (B [UInt8.ofNat n]) else none) ∧ signL [UInt8.ofNat n] = (if signN n then 1 else 0) := by decide +kernel
theorem fst_two : ∀ n : Nat, n < 256 → ∀ m : Nat, m ∈ [61, 46, 0] → fstS sgnsB [UInt8.ofNat n, UInt8.ofNat m] = (if signN n then some (B ([UInt8.ofNat n, UInt8.ofNat m].take (sgn2 n m))) else none) ∧ signL [UInt8.ofNat n, UInt8.ofNat m] = sgn2 n m ∧ (m = 0 → sgn2 n m ≤ 1) := by decide +kernel
theorem fstS_other (c d d' : UInt8) (t : List UInt8) (h61 : d ≠ 61) (h46 : d ≠ 46) (g61 : d' ≠ 61) (g46 : d' ≠ 46) : ∀ ws : List ByteArray, (∀ w ∈ ws, w.data.toList.length = 1 ∨ (∃ a, w.data.toList = [a, 61] ∨ w.data.toList = [a, 46])) → fstS ws (c :: d :: t) = fstS ws [c, d']
  | [], _ => rfl
  | w :: ws, hw => by
    have ih := fstS_other c d d' t h61 h46 g61 g46 ws (fun x hx => hw x (List.mem_cons_of_mem _ hx))
    rw [fstS, fstS, ih]
    rcases hw w List.mem_cons_self with h | ⟨a, h | h⟩
    · rw [h]; rfl
    · rw [h]
      rw [if_neg (by simp [h61]), if_neg (by simp [g61])]
    · rw [h]
      rw [if_neg (by simp [h46]), if_neg (by simp [g46])]
theorem sgns_shape : ∀ w ∈ sgnsB, w.data.toList.length = 1 ∨ (∃ a, w.data.toList = [a, 61] ∨ w.data.toList = [a, 46]) := by
  intro w hw
  simp only [sgnsB, List.mem_cons, List.mem_nil_iff, or_false] at hw
  rcases hw with rfl | rfl | rfl | rfl | rfl | rfl | rfl | rfl | rfl | rfl | rfl | rfl | rfl | rfl | rfl | rfl | rfl | rfl | rfl
  · exact .inr ⟨46, .inr rfl⟩
  · exact .inr ⟨33, .inl rfl⟩
  · exact .inr ⟨60, .inl rfl⟩
  · exact .inr ⟨62, .inl rfl⟩
  all_goals exact .inl rfl
theorem fst_sign (c : UInt8) (t : List UInt8) : fstS sgnsB (c :: t) = (if signN c.toNat then some (B ((c :: t).take (signL (c :: t)))) else none) := by
  have hc : UInt8.ofNat c.toNat = c := UInt8.ofNat_toNat
  match t with
  | [] =>
    have := fst_one c.toNat c.toNat_lt
    rw [hc] at this
    rw [this.1, this.2]
    split <;> rfl
  | d :: t =>
    by_cases h61 : d = 61
    · subst h61
      have := fst_two c.toNat c.toNat_lt 61 (by simp)
      rw [hc] at this
      have e1 : fstS sgnsB (c :: 61 :: t) = fstS sgnsB [c, 61] := rfl
      have e2 : signL (c :: 61 :: t) = signL [c, 61] := rfl
      have e3 : signL [c, 61] = sgn2 c.toNat 61 := this.2.1
      rw [e1, e2, e3]
      refine this.1.trans ?_
      have h2 : sgn2 c.toNat 61 ≤ 2 := by unfold sgn2; (repeat' split) <;> omega
      generalize sgn2 c.toNat 61 = q at h2 ⊢
      match q, h2 with
      | 0, _ => rfl
      | 1, _ => rfl
      | 2, _ => rfl
    · by_cases h46 : d = 46
      · subst h46
        have := fst_two c.toNat c.toNat_lt 46 (by simp)
        rw [hc] at this
        have e1 : fstS sgnsB (c :: 46 :: t) = fstS sgnsB [c, 46] := rfl
        have e2 : signL (c :: 46 :: t) = signL [c, 46] := rfl
        have e3 : signL [c, 46] = sgn2 c.toNat 46 := this.2.1
        rw [e1, e2, e3]
        refine this.1.trans ?_
        have h2 : sgn2 c.toNat 46 ≤ 2 := by unfold sgn2; (repeat' split) <;> omega
        generalize sgn2 c.toNat 46 = q at h2 ⊢
        match q, h2 with
        | 0, _ => rfl
        | 1, _ => rfl
        | 2, _ => rfl
      · have := fst_two c.toNat c.toNat_lt 0 (by simp)
        rw [hc] at this
        have e1 : fstS sgnsB (c :: d :: t) = fstS sgnsB [c, 0] := fstS_other c d 0 t h61 h46 (by decide) (by decide) sgnsB sgns_shape
        have e2 : signL (c :: d :: t) = signL [c, 0] := by
          simp only [signL]
          have a61 : ((d :: t).take 1 == [61]) = false := by simp [h61]
          have a46 : ((d :: t).take 1 == [46]) = false := by simp [h46]
          rw [a61, a46]
          rfl
        have e3 : signL [c, 0] = sgn2 c.toNat 0 := this.2.1
        rw [e1, e2, e3]
        refine this.1.trans ?_
        have h2 : sgn2 c.toNat 0 ≤ 1 := this.2.2 rfl
        generalize sgn2 c.toNat 0 = q at h2 ⊢
        match q, h2 with
        | 0, _ => rfl
        | 1, _ => rfl
/-- What one answers. -/
def oneT (c : UInt8) (t : List UInt8) (pos : Nat) : Int × ByteArray × Int × Int × Int × Int :=
  if begL c = 2 then (if 32 < runL (c :: t) then (0, ⟨#[]⟩, 0, 0, (pos : Int), 51) else (1, B ((c :: t).take (runL (c :: t))), (pos : Int), ((pos + runL (c :: t) : Nat) : Int), 0, 0))
  else if begL c = 3 then (if isIntB ((c :: t).take (runL (c :: t))) = true then (2, B ((c :: t).take (runL (c :: t))), (pos : Int), ((pos + runL (c :: t) : Nat) : Int), 0, 0) else (0, ⟨#[]⟩, 0, 0, (pos : Int), 51))
  else if begL c = 4 then strT pos (unqL (t.length + 1) t [] (pos + 1) pos)
  else if begL c = 5 then (4, B ((c :: t).take (signL (c :: t))), (pos : Int), ((pos + signL (c :: t) : Nat) : Int), 0, 0)
  else (0, ⟨#[]⟩, 0, 0, (pos : Int), 50)
theorem beg_cases0 : ∀ n : Nat, n < 256 → begN n = 1 ∨ ((letN n = true ∧ begN n = 2) ∨ (letN n = false ∧ digN n = true ∧ begN n = 3) ∨ (letN n = false ∧ digN n = false ∧ n = 34 ∧ begN n = 4) ∨ (letN n = false ∧ digN n = false ∧ n ≠ 34 ∧ signN n = true ∧ begN n = 5) ∨ (letN n = false ∧ digN n = false ∧ n ≠ 34 ∧ signN n = false ∧ begN n = 0)) := by decide +kernel
theorem beg_cases (n : Nat) (hn : n < 256) (h : begN n ≠ 1) : (letN n = true ∧ begN n = 2) ∨ (letN n = false ∧ digN n = true ∧ begN n = 3) ∨ (letN n = false ∧ digN n = false ∧ n = 34 ∧ begN n = 4) ∨ (letN n = false ∧ digN n = false ∧ n ≠ 34 ∧ signN n = true ∧ begN n = 5) ∨ (letN n = false ∧ digN n = false ∧ n ≠ 34 ∧ signN n = false ∧ begN n = 0) := (beg_cases0 n hn).resolve_left h
theorem take_run (r : List UInt8) : r.take (runL r) = r.takeWhile goesB := by
  unfold runL
  induction r with
  | nil => rfl
  | cons c t ih =>
    rw [List.takeWhile_cons]
    split
    · rw [List.length_cons, List.take_succ_cons, ih]
    · rfl
theorem take_dB (r : List UInt8) : r.take (r.takeWhile dB).length = r.takeWhile dB := by
  induction r with
  | nil => rfl
  | cons c t ih =>
    rw [List.takeWhile_cons]
    split
    · rw [List.length_cons, List.take_succ_cons, ih]
    · rfl
theorem split_run (r : List UInt8) : r.takeWhile goesB = r.takeWhile dB ++ (r.drop (r.takeWhile dB).length).takeWhile goesB := by
  induction r with
  | nil => rfl
  | cons c t ih =>
    by_cases h : dB c = true
    · have hg : goesB c = true := by
        show (letN c.toNat || digN c.toNat) = true
        rw [show digN c.toNat = true from h, Bool.or_true]
      rw [List.takeWhile_cons, if_pos hg, List.takeWhile_cons, if_pos h, List.length_cons, List.drop_succ_cons, ih, List.cons_append]
    · rw [show (c :: t).takeWhile dB = [] by rw [List.takeWhile_cons, if_neg h]]
      rfl
theorem dB_dig (c : UInt8) : dB c = digB c := rfl
theorem all_dB (r : List UInt8) : (r.takeWhile dB).all digB = true := by
  induction r with
  | nil => rfl
  | cons c t ih =>
    rw [List.takeWhile_cons]
    split
    · rename_i h
      rw [List.all_cons, ih, Bool.and_true]
      exact h
    · rfl
theorem drop_dB (r : List UInt8) : r.drop (r.takeWhile dB).length = [] ∨ ∃ x u, r.drop (r.takeWhile dB).length = x :: u ∧ dB x = false := by
  induction r with
  | nil => exact .inl rfl
  | cons c t ih =>
    rw [List.takeWhile_cons]
    split
    · rw [List.length_cons, List.drop_succ_cons]; exact ih
    · rename_i h
      exact .inr ⟨c, t, rfl, by simpa using h⟩
/-- A number: the digits, and no letter behind them. -/
theorem int_run (r : List UInt8) (hne : r.takeWhile dB ≠ []) : isIntB (r.take (runL r)) = (smallB (r.takeWhile dB) && (match r.drop (r.takeWhile dB).length with | [] => true | x :: _ => !letN x.toNat)) ∧
    ((match r.drop (r.takeWhile dB).length with | [] => true | x :: _ => !letN x.toNat) = true → runL r = (r.takeWhile dB).length) := by
  have hs := split_run r
  have hsm := small_int _ hne (all_dB r)
  rw [take_run]
  rcases drop_dB r with h | ⟨x, u, h, hx⟩
  · rw [h] at hs ⊢
    rw [List.takeWhile_nil, List.append_nil] at hs
    rw [hs]
    refine ⟨by rw [hsm]; simp, fun _ => ?_⟩
    unfold runL
    rw [hs]
  · rw [h] at hs ⊢
    by_cases hlx : letN x.toNat = true
    · have hg : goesB x = true := by show (letN x.toNat || digN x.toNat) = true; rw [hlx]; rfl
      rw [List.takeWhile_cons, if_pos hg] at hs
      refine ⟨?_, fun q => by simp [hlx] at q⟩
      simp only [hlx, Bool.not_true, Bool.and_false]
      rw [hs]
      unfold isIntB
      have : (r.takeWhile dB ++ x :: u.takeWhile goesB).all digB = false := by
        rw [List.all_append, List.all_cons, ← dB_dig x, hx]; simp
      rw [this]; simp
    · rw [Bool.not_eq_true] at hlx
      have hg : goesB x = false := by show (letN x.toNat || digN x.toNat) = false; rw [hlx, show digN x.toNat = false from hx]; rfl
      rw [List.takeWhile_cons, if_neg (by rw [hg]; decide), List.append_nil] at hs
      rw [hs]
      refine ⟨by rw [hsm]; simp [hlx], fun _ => ?_⟩
      unfold runL
      rw [hs]
theorem one_ev (l : List UInt8) (hl : l.length ≤ 4096) (pre : List UInt8) (c : UInt8) (t : List UInt8) (h : pre ++ c :: t = l) (h1 : begL c ≠ 1) : Ev (fun k => refrainref5_one.f k (B l) (pre.length : Int)) (oneT c t pre.length) := by
  have hz : l.length = pre.length + (t.length + 1) := by rw [← h]; simp
  have hb : bt (B l) (pre.length : Int) = (c.toNat : Int) := by rw [← h]; exact bt_mid pre c t
  have hlt := letter_n c.toNat c.toNat_lt
  have hdg := digit_n c.toNat c.toNat_lt
  unfold refrainref5_one.f
  have g1 : (0 : Int) ≤ (pre.length : Int) := by omega
  have g2 : (pre.length : Int) < ((B l).size : Int) := by rw [B_size]; omega
  simp only [if_pos g1, if_pos g2, hb, hlt, hdg, Option.bind_some]
  unfold oneT begL
  rcases beg_cases c.toNat c.toNat_lt h1 with ⟨a, e⟩ | ⟨a, b, e⟩ | ⟨a, b, q, e⟩ | ⟨a, b, q, s, e⟩ | ⟨a, b, q, s, e⟩
  · rw [a, e, if_pos rfl]
    have hr := run_ev5 l (by omega) true goesB (fun c => by show (letN c.toNat || digN c.toNat) = _; rw [Bool.true_and, Bool.or_comm]) (c :: t) pre h
    have hle : runL (c :: t) ≤ t.length + 1 := runL_le (c :: t)
    change Ev _ ((pre.length + runL (c :: t) : Nat) : Int) at hr
    simp only [if_true]
    refine Ev.bind hr ?_
    have hw : wrap64 (((pre.length + runL (c :: t) : Nat) : Int) - (pre.length : Int)) = (runL (c :: t) : Int) := by unfold wrap64; omega
    refine Ev.congr (fun k => ?_) (Ev.now _)
    rw [hw]
    by_cases h32 : 32 < runL (c :: t)
    · rw [if_pos (by omega), if_pos h32]
    · rw [if_neg (by omega), if_neg h32, if_pos (by omega), if_pos (by rw [B_size]; omega), Int.toNat_natCast, Int.toNat_natCast]
      rw [← h, B_ext_mid]
  · rw [a, b, e, if_neg (by decide), if_pos rfl]
    simp only [if_true, Bool.false_eq_true, if_false]
    have hr := run_ev5 l (by omega) false dB (fun c => by show digN c.toNat = _; rw [Bool.false_and, Bool.or_false]) (c :: t) pre h
    have hne : (c :: t).takeWhile dB ≠ [] := by rw [List.takeWhile_cons, if_pos (show dB c = true from b)]; simp
    obtain ⟨hi, hrl⟩ := int_run (c :: t) hne
    have hle : ((c :: t).takeWhile dB).length ≤ t.length + 1 := takeWhile_le dB (c :: t)
    have htd := take_dB (c :: t)
    have hdr := drop_dB (c :: t)
    obtain ⟨D, hD⟩ : ∃ D, (c :: t).takeWhile dB = D := ⟨_, rfl⟩
    rw [hD] at hr hi hrl hle htd hdr
    refine Ev.bind hr ?_
    have hex : (B l).extract (pre.length : Int).toNat ((pre.length + D.length : Nat) : Int).toNat = B D := by
      rw [Int.toNat_natCast, Int.toNat_natCast, ← h, B_ext_mid, htd]
    have hs := small_ev D
    refine Ev.congr (g := _) (f := fun k => (refrainref5_small.f k (B D)).bind fun t567 => (if t567 = true then (if ((pre.length + D.length : Nat) : Int) < ((B l).size : Int) then (if 0 ≤ ((pre.length + D.length : Nat) : Int) then ((refrainref5_letter.f (bt (B l) ((pre.length + D.length : Nat) : Int))).bind fun t568 => (if t568 = true then (some (0, (⟨#[]⟩ : ByteArray), 0, 0, (pre.length : Int), 51)) else (some (2, B D, (pre.length : Int), ((pre.length + D.length : Nat) : Int), 0, 0)))) else (none)) else (some (2, B D, (pre.length : Int), ((pre.length + D.length : Nat) : Int), 0, 0))) else (some (0, (⟨#[]⟩ : ByteArray), 0, 0, (pre.length : Int), 51)))) (fun k => ?_) (Ev.bind hs ?_)
    · rw [if_pos (by omega), if_pos (by rw [B_size]; omega), hex]
    · refine Ev.congr (fun k => ?_) (Ev.now _)
      rw [hi]
      cases hsm : smallB D
      · rw [if_neg (by decide), Bool.false_and, if_neg (by decide)]
      · rw [if_pos rfl, Bool.true_and]
        rcases hdr with hd | ⟨x, u, hd, hx⟩
        · rw [hd] at hrl ⊢
          have hn : D.length = t.length + 1 := by
            have := congrArg List.length hd
            rw [List.length_drop, List.length_cons, List.length_nil] at this
            omega
          have hr2 := hrl rfl
          rw [if_neg (by rw [B_size]; omega), if_pos rfl, hr2, htd]
        · rw [hd] at hrl ⊢
          have hn : D.length < t.length + 1 := by
            have := congrArg List.length hd
            rw [List.length_drop, List.length_cons, List.length_cons] at this
            omega
          have hpl : (pre ++ D) ++ x :: u = l := by
            rw [← hd, List.append_assoc]
            have := List.take_append_drop D.length (c :: t)
            rw [htd] at this
            rw [this, h]
          have hbx : bt (B l) ((pre.length + D.length : Nat) : Int) = (x.toNat : Int) := by
            rw [← hpl, ← List.length_append]; exact bt_mid (pre ++ D) x u
          rw [if_pos (by rw [B_size]; omega), if_pos (by omega), hbx, letter_n x.toNat x.toNat_lt, Option.bind_some]
          cases hlx : letN x.toNat
          · have hr2 := hrl (by simp [hlx])
            rw [if_neg (by decide), if_pos (by simp [hlx]), hr2, htd]
          · rw [if_pos rfl, if_neg (by simp [hlx])]
  · rw [a, b, e, if_neg (by decide), if_neg (by decide), if_pos rfl]
    simp only [Bool.false_eq_true, if_false]
    simp only [if_pos (show (c.toNat : Int) = 34 by omega)]
    have hp : (pre ++ [c]) ++ t = l := by rw [← h]; simp
    have hs := str_ev l hl pre.length (t.length + 1) t (pre ++ [c]) [] hp (by omega) (by simp)
    rw [List.length_append, List.length_singleton] at hs
    have hs2 : Ev (fun k => refrainref5_str.f k (B l) (pre.length : Int)) (strT pre.length (unqL (t.length + 1) t [] (pre.length + 1) pre.length)) := by
      refine Ev.congr (fun k => ?_) hs
      unfold refrainref5_str.f
      rw [w1 _ (by omega)]
    refine Ev.bind hs2 ?_
    exact Ev.now _
  · rw [a, b, e, if_neg (by decide), if_neg (by decide), if_neg (by decide), if_pos rfl]
    simp only [Bool.false_eq_true, if_false]
    simp only [if_neg (show ¬ (c.toNat : Int) = 34 by omega)]
    have hs := signs_ev l hl pre (c :: t) h sgnsB (by decide) (by
      intro w hw
      rcases sgns_shape w hw with h | ⟨a, h | h⟩
      · rw [← data_len, h]; decide
      · rw [← data_len, h]; simp
      · rw [← data_len, h]; simp) sgnsB 0 rfl (by simp)
    rw [fst_sign, s, if_pos rfl] at hs
    have hl2 := signL_le (c :: t)
    have e2 : fstT pre.length (some (B ((c :: t).take (signL (c :: t))))) = (4, B ((c :: t).take (signL (c :: t))), (pre.length : Int), ((pre.length + signL (c :: t) : Nat) : Int), 0, 0) := by
      show (4, _, _, ((pre.length + (B _).size : Nat) : Int), 0, 0) = _
      rw [B_size, List.length_take, Nat.min_eq_left hl2.1]
    rw [e2] at hs
    exact hs
  · rw [a, b, e, if_neg (by decide), if_neg (by decide), if_neg (by decide), if_neg (by decide)]
    simp only [Bool.false_eq_true, if_false]
    simp only [if_neg (show ¬ (c.toNat : Int) = 34 by omega)]
    have hs := signs_ev l hl pre (c :: t) h sgnsB (by decide) (by
      intro w hw
      rcases sgns_shape w hw with h | ⟨a, h | h⟩
      · rw [← data_len, h]; decide
      · rw [← data_len, h]; simp
      · rw [← data_len, h]; simp) sgnsB 0 rfl (by simp)
    rw [fst_sign, s, if_neg (by decide)] at hs
    exact hs
end Go.Proofs.YthmcapdakplhdaaDoor.Pu
end

/-! ## text PuR5 -/
section
/- The document's speller (refrainref5), part 1: what may be, and strings as they are written: the program's own. -/
namespace Go.Proofs.YthmcapdakplhdaaDoor.Pu
open Go Go.RowKit Go.Proofs.YthmcapdakplhdaaDoor.Pr Go.Proofs.YthmcapdakplhdaaDoorW.PrintWords Go.Proofs.YthmcapdakplhdaaDoorW.PrintLast Go.Proofs.YthmcapdakplhdaaDoorW.PrintMore
set_option linter.unusedVariables false
set_option linter.unusedSimpArgs false
/-! one of a list -/
end Go.Proofs.YthmcapdakplhdaaDoor.Pu
end

/-! ## text PuR4 -/
section
/- The document's scanner on lists of bytes, part 4: blanks and comments, the whole: it answers as the program's. -/
namespace Go.Proofs.YthmcapdakplhdaaDoor.Pu
open Go Go.RowKit Go.Proofs.YthmcapdakplhdaaDoor.Pr Go.Proofs.YthmcapdakplhdaaDoorW.PrintWords Go.Proofs.YthmcapdakplhdaaDoorW.PrintLast Go.Proofs.YthmcapdakplhdaaDoorW.PrintMore
set_option linter.unusedVariables false
set_option linter.unusedSimpArgs false
theorem begL_blank (c : UInt8) : begL c = 1 ↔ blankN c.toNat = true := by
  have h : ∀ n : Nat, n < 256 → (begN n = 1 ↔ blankN n = true) := by decide +kernel
  exact h _ c.toNat_lt
theorem comment_skip (l : List UInt8) (hl : l.length ≤ 4096) (r : Int) : ∀ (rest pre : List UInt8), pre ++ rest = l →
    Ev (fun k => refrainref5_skip.l0 k (B l) ((pre.length + (rest.length - (rest.dropWhile notLf).length) : Nat) : Int)) r → Ev (fun k => refrainref5_skip.l1 k (B l) (pre.length : Int)) r
  | [], pre, hp, h => by
    refine Ev.step (fun k => ?_) (by simpa using h)
    simp only [refrainref5_skip.l1]
    rw [if_neg (by rw [B_size, ← hp]; simp)]
  | c :: t, pre, hp, h => by
    have hz : l.length = pre.length + (t.length + 1) := by rw [← hp]; simp
    have hb : bt (B l) (pre.length : Int) = (c.toNat : Int) := by rw [← hp]; exact bt_mid pre c t
    rw [List.dropWhile_cons] at h
    by_cases hc : notLf c = true
    · rw [if_pos hc] at h
      have hle := dropWhile_le notLf t
      refine Ev.step (fun k => ?_) (comment_skip l hl r t (pre ++ [c]) (by rw [← hp]; simp) (by
        rw [List.length_append, List.length_singleton]
        rw [List.length_cons] at h
        rw [show pre.length + 1 + (t.length - (t.dropWhile notLf).length) = pre.length + (t.length + 1 - (t.dropWhile notLf).length) by omega]
        exact h))
      simp only [refrainref5_skip.l1]
      rw [if_pos (by rw [B_size]; omega), if_pos (by omega), hb, if_neg (by intro q; simp [notLf] at hc; omega), w1 _ (by omega), List.length_append, List.length_singleton]
    · rw [if_neg hc] at h
      refine Ev.step (fun k => ?_) (by simpa using h)
      simp only [refrainref5_skip.l1]
      rw [if_pos (by rw [B_size]; omega), if_pos (by omega), hb, if_pos (by simp [notLf] at hc; omega)]
theorem take45 (c d : UInt8) (t : List UInt8) : ((c :: d :: t).take 2 == [45, 45]) = (c.toNat == 45 && d.toNat == 45) := by
  have e : ∀ x : UInt8, (x == 45) = (x.toNat == 45) := by
    intro x
    rw [Bool.eq_iff_iff, beq_iff_eq, beq_iff_eq]
    exact ⟨fun h => by rw [h]; rfl, fun h => UInt8.toNat_inj.1 h⟩
  rw [← e, ← e]
  show ([c, d] == [45, 45]) = _
  simp
/-- From blanks and comments on: where the next token stands. -/
def Next (l : List UInt8) (pre rest : List UInt8) : Prop := ∃ pre' rest' : List UInt8, pre' ++ rest' = l ∧ pre.length ≤ pre'.length ∧ Ev (fun k => refrainref5_skip.l0 k (B l) (pre.length : Int)) (pre'.length : Int) ∧
  (rest' = [] ∨ ∃ c t, rest' = c :: t ∧ begL c ≠ 1 ∧ ((c :: t).take 2 == [45, 45]) = false) ∧ (∀ f out, rest.length < f → ∃ f', rest'.length < f' ∧ f' ≤ f ∧ scanL f rest out pre.length = scanL f' rest' out pre'.length)
theorem skip_next (l : List UInt8) (hl : l.length ≤ 4096) : ∀ (n : Nat) (rest pre : List UInt8), pre ++ rest = l → rest.length < n → Next l pre rest
  | 0, rest, pre, h, hn => absurd hn (by omega)
  | n + 1, [], pre, h, hn => by
    have hz : l.length = pre.length := by rw [← h]; simp
    refine ⟨pre, [], h, Nat.le_refl _, ?_, .inl rfl, fun f out hf => ⟨f, hf, Nat.le_refl _, rfl⟩⟩
    refine Ev.step (f := fun _ => some _) (fun k => ?_) (Ev.now _)
    simp only [refrainref5_skip.l0]
    rw [if_neg (by rw [B_size]; omega)]
  | n + 1, c :: t, pre, h, hn => by
    have hz : l.length = pre.length + (t.length + 1) := by rw [← h]; simp
    have hb : bt (B l) (pre.length : Int) = (c.toNat : Int) := by rw [← h]; exact bt_mid pre c t
    have hbl := blank_n c.toNat c.toNat_lt
    rw [List.length_cons] at hn
    by_cases hc : begL c = 1
    · have hcb := (begL_blank c).1 hc
      have h45 : ((c :: t).take 2 == [45, 45]) = false := by
        match t with
        | [] => simp
        | d :: t =>
          rw [take45]
          have : ∀ n : Nat, n < 256 → begN n = 1 → (n == 45) = false := by decide +kernel
          rw [this _ c.toNat_lt hc]; rfl
      obtain ⟨pre', rest', h1, h2, h3, h4, h5⟩ := skip_next l hl n t (pre ++ [c]) (by rw [← h]; simp) (by omega)
      rw [List.length_append, List.length_singleton] at h2 h3 h5
      refine ⟨pre', rest', h1, by omega, ?_, h4, fun f out hf => ?_⟩
      · refine Ev.step (fun k => ?_) h3
        simp only [refrainref5_skip.l0]
        rw [if_pos (by rw [B_size]; omega), if_pos (by omega), hb, hbl, Option.bind_some, if_pos hcb, w1 _ (by omega)]
      · match f, hf with
        | f + 1, hf =>
          rw [List.length_cons] at hf
          obtain ⟨f', g1, g2, g3⟩ := h5 f out (by omega)
          refine ⟨f', g1, by omega, ?_⟩
          rw [scanL, h45, if_neg (by decide), if_pos hc]
          exact g3
    · have hcb : blankN c.toNat = false := by
        rcases h0 : blankN c.toNat with _ | _
        · rfl
        · exact absurd ((begL_blank c).2 h0) hc
      by_cases h45 : ((c :: t).take 2 == [45, 45]) = true
      · match t, h45, h, hz, hn with
        | [], h45, _, _, _ => simp at h45
        | d :: t, h45, h, hz, hn =>
          have h45' := h45
          rw [take45, Bool.and_eq_true, beq_iff_eq, beq_iff_eq] at h45
          have hd := bt_at pre c d t l h
          have hle := dropWhile_le notLf t
          have hnc : notLf c = true := by simp [notLf, h45.1]
          have hnd : notLf d = true := by simp [notLf, h45.2]
          have hdw : (c :: d :: t).dropWhile notLf = t.dropWhile notLf := by rw [List.dropWhile_cons, if_pos hnc, List.dropWhile_cons, if_pos hnd]
          obtain ⟨q, hq, hql⟩ : ∃ q : List UInt8, q ++ t.dropWhile notLf = c :: d :: t ∧ q.length + (t.dropWhile notLf).length = t.length + 2 := by
            refine ⟨c :: d :: t.takeWhile notLf, by rw [List.cons_append, List.cons_append, List.takeWhile_append_dropWhile], ?_⟩
            have := congrArg List.length (List.takeWhile_append_dropWhile (p := notLf) (l := t))
            rw [List.length_append] at this
            simp only [List.length_cons]
            omega
          rw [List.length_cons] at hn hz
          obtain ⟨pre', rest', h1, h2, h3, h4, h5⟩ := skip_next l hl n (t.dropWhile notLf) (pre ++ q) (by rw [List.append_assoc, hq, h]) (by omega)
          rw [List.length_append] at h2 h3 h5
          have hql2 : pre.length + q.length = pre.length + ((c :: d :: t).length - ((c :: d :: t).dropWhile notLf).length) := by
            rw [hdw, List.length_cons, List.length_cons]; omega
          refine ⟨pre', rest', h1, by omega, ?_, h4, fun f out hf => ?_⟩
          · have k1 := comment_skip l hl (pre'.length : Int) (c :: d :: t) pre h (by rw [← hql2]; exact h3)
            have k2 : Ev (fun k => refrainref5_skip.j1 k (B l) (pre.length : Int) false) (pre'.length : Int) := by
              refine Ev.step (fun k => ?_) k1
              simp only [refrainref5_skip.j1]
              rw [if_neg (by decide)]
            refine Ev.step (fun k => ?_) k2
            simp only [refrainref5_skip.l0]
            rw [if_pos (by rw [B_size]; omega), if_pos (by omega), hb, hbl, Option.bind_some, if_neg (by rw [hcb]; decide), if_pos (by omega), w1 _ (by omega), if_neg (by rw [B_size]; omega), if_pos (by omega), if_pos (by rw [B_size]; omega), hd, h45.2]
            rfl
          · match f, hf with
            | f + 1, hf =>
              rw [List.length_cons, List.length_cons] at hf
              obtain ⟨f', g1, g2, g3⟩ := h5 f out (by omega)
              refine ⟨f', g1, by omega, ?_⟩
              rw [scanL, if_pos h45', ← hql2, hdw]
              exact g3
      · rw [Bool.not_eq_true] at h45
        refine ⟨pre, c :: t, h, Nat.le_refl _, ?_, .inr ⟨c, t, rfl, hc, h45⟩, fun f out hf => ⟨f, hf, Nat.le_refl _, rfl⟩⟩
        have hj : Ev (fun k => refrainref5_skip.j1 k (B l) (pre.length : Int) true) (pre.length : Int) := by
          refine Ev.step (f := fun _ => some _) (fun k => ?_) (Ev.now _)
          simp only [refrainref5_skip.j1]
          rw [if_pos trivial]
        refine Ev.step (fun k => ?_) hj
        simp only [refrainref5_skip.l0]
        rw [if_pos (by rw [B_size]; omega), if_pos (by omega), hb, hbl, Option.bind_some, if_neg (by rw [hcb]; decide)]
        by_cases c45 : c.toNat = 45
        · rw [if_pos (by omega), w1 _ (by omega)]
          match t, h45, h, hz with
          | [], _, _, hz => rw [if_pos (by rw [B_size]; simp at hz; omega)]
          | d :: t, h45, h, hz =>
            rw [List.length_cons] at hz
            rw [if_neg (by rw [B_size]; omega), if_pos (by omega), if_pos (by rw [B_size]; omega), bt_at pre c d t l h]
            rw [take45, c45] at h45
            have d45 : (d.toNat == 45) = false := by simpa using h45
            have : (((d.toNat : Nat) : Int) != 45) = true := by
              rw [bne_iff_ne]
              have := beq_eq_false_iff_ne.1 d45
              omega
            rw [this]
        · rw [if_neg (by omega)]
/-- The document's Scan from a place on, behind the blanks. -/
theorem scan_main (l : List UInt8) (hl : l.length ≤ 4096) : ∀ (n f : Nat) (rest pre : List UInt8) (out : List S44), f ≤ n → pre ++ rest = l → rest.length < f → out.length ≤ pre.length →
    Ev (fun k => (refrainref5_skip.l0 k (B l) (pre.length : Int)).bind fun t => refrainref5_Scan.l0 k (B l) out t) (scanL f rest out pre.length)
  | 0, f, rest, pre, out, hfn, h, hf, ho => absurd hf (by omega)
  | n + 1, f, rest, pre, out, hfn, h, hf, ho => by
    obtain ⟨pre', rest', h1, h2, h3, h4, h5⟩ := skip_next l hl (rest.length + 1) rest pre h (by omega)
    obtain ⟨f', g1, g2, g3⟩ := h5 f out hf
    rw [g3]
    refine Ev.bind h3 ?_
    have hz : l.length = pre'.length + rest'.length := by rw [← h1]; simp
    rcases h4 with rfl | ⟨c, t, rfl, hc, h45⟩
    · match f', g1 with
      | f' + 1, _ =>
        rw [scanL]
        refine Ev.step (f := fun _ => some _) (fun k => ?_) (Ev.now _)
        simp only [refrainref5_Scan.l0]
        rw [if_neg (by rw [B_size]; simp at hz; omega), if_pos (by omega), B_size]
        simp at hz
        rw [hz]
        rfl
    · match f', g1, g2 with
      | f' + 1, g1, g2 =>
        rw [List.length_cons] at g1 hz
        have ho' : out.length ≤ pre'.length := by omega
        have h1' := one_ev l hl pre' c t h1 hc
        have stp : ∀ R, Ev (fun k => (if (oneT c t pre'.length).2.2.2.2.2 = 0 then (if out.length < 4398046511104 then ((refrainref5_skip.f k (B l) (oneT c t pre'.length).2.2.2.1).bind fun t595 => (refrainref5_Scan.l0 k (B l) (out ++ [(⟨(oneT c t pre'.length).1, (oneT c t pre'.length).2.1, (oneT c t pre'.length).2.2.1⟩ : S44)]) t595)) else (none)) else (some (([] : List (S44)), (oneT c t pre'.length).2.2.2.2.1, (oneT c t pre'.length).2.2.2.2.2)))) R → Ev (fun k => refrainref5_Scan.l0 k (B l) out (pre'.length : Int)) R := by
          intro R hR
          refine Ev.step (f := fun k => (refrainref5_one.f k (B l) (pre'.length : Int)).bind fun bt585 => (if bt585.2.2.2.2.2 = 0 then (if out.length < 4398046511104 then ((refrainref5_skip.f k (B l) bt585.2.2.2.1).bind fun t595 => (refrainref5_Scan.l0 k (B l) (out ++ [(⟨bt585.1, bt585.2.1, bt585.2.2.1⟩ : S44)]) t595)) else (none)) else (some (([] : List (S44)), bt585.2.2.2.2.1, bt585.2.2.2.2.2)))) (fun k => ?_) (Ev.bind h1' hR)
          simp only [refrainref5_Scan.l0]
          rw [if_pos (by rw [B_size]; omega)]
        -- a token, then on
        have on : ∀ (kd : Int) (tx : ByteArray) (m : Nat), 1 ≤ m → m ≤ t.length + 1 → oneT c t pre'.length = (kd, tx, (pre'.length : Int), ((pre'.length + m : Nat) : Int), 0, 0) →
            Ev (fun k => refrainref5_Scan.l0 k (B l) out (pre'.length : Int)) (scanL f' ((c :: t).drop m) (out ++ [⟨kd, tx, (pre'.length : Int)⟩]) (pre'.length + m)) := by
          intro kd tx m hm hm2 he
          refine stp _ ?_
          rw [he]
          have hp : (pre' ++ (c :: t).take m) ++ (c :: t).drop m = l := by rw [List.append_assoc, List.take_append_drop, h1]
          have hlen : (pre' ++ (c :: t).take m).length = pre'.length + m := by rw [List.length_append, List.length_take, List.length_cons]; omega
          have ih := scan_main l hl n f' ((c :: t).drop m) (pre' ++ (c :: t).take m) (out ++ [⟨kd, tx, (pre'.length : Int)⟩]) (by omega) hp (by rw [List.length_drop, List.length_cons]; omega) (by rw [List.length_append, List.length_singleton, hlen]; omega)
          rw [hlen] at ih
          refine Ev.congr (fun k => ?_) ih
          show (if (0 : Int) = 0 then _ else _) = _
          rw [if_pos rfl, if_pos (by omega)]
          rfl
        have stop : ∀ (a e : Int), e ≠ 0 → oneT c t pre'.length = (0, ⟨#[]⟩, 0, 0, a, e) → Ev (fun k => refrainref5_Scan.l0 k (B l) out (pre'.length : Int)) (([] : List S44), a, e) := by
          intro a e he h0
          refine stp _ ?_
          rw [h0]
          refine Ev.congr (fun k => ?_) (Ev.now _)
          show (if e = 0 then _ else _) = _
          rw [if_neg he]
        rw [scanL, h45, if_neg (by decide), if_neg hc]
        have hone : oneT c t pre'.length = oneT c t pre'.length := rfl
        conv at hone => rhs; unfold oneT
        have hrl := runL_le (c :: t)
        rw [List.length_cons] at hrl
        by_cases b2 : begL c = 2
        · rw [if_pos b2] at hone ⊢
          have hpos : 1 ≤ runL (c :: t) := by
            unfold runL
            rw [List.takeWhile_cons, if_pos (beg_goes c (.inl b2))]
            simp
          by_cases h32 : 32 < runL (c :: t)
          · rw [if_pos h32] at hone ⊢
            exact stop _ _ (by decide) hone
          · rw [if_neg h32] at hone ⊢
            exact on _ _ _ hpos hrl hone
        · rw [if_neg b2] at hone ⊢
          by_cases b3 : begL c = 3
          · rw [if_pos b3] at hone ⊢
            have hpos : 1 ≤ runL (c :: t) := by
              unfold runL
              rw [List.takeWhile_cons, if_pos (beg_goes c (.inr b3))]
              simp
            by_cases hi : isIntB ((c :: t).take (runL (c :: t))) = true
            · rw [if_pos hi] at hone ⊢
              exact on _ _ _ hpos hrl hone
            · rw [if_neg hi] at hone ⊢
              exact stop _ _ (by decide) hone
          · rw [if_neg b3] at hone ⊢
            by_cases b4 : begL c = 4
            · rw [if_pos b4] at hone ⊢
              unfold strT at hone
              by_cases h0 : (unqL (t.length + 1) t [] (pre'.length + 1) pre'.length).2.2 = 0
              · rw [if_pos h0] at hone ⊢
                obtain ⟨m, hm, hm1, hm2⟩ := unq_end (t.length + 1) t [] (pre'.length + 1) pre'.length (by omega) h0
                rw [hm] at hone ⊢
                rw [Int.toNat_natCast]
                have := on 3 (unqL (t.length + 1) t [] (pre'.length + 1) pre'.length).1 (m - pre'.length) (by omega) (by omega) (by rw [hone, show pre'.length + (m - pre'.length) = m by omega])
                rw [show pre'.length + (m - pre'.length) = m by omega] at this
                exact this
              · rw [if_neg h0] at hone ⊢
                exact stop _ _ h0 hone
            · rw [if_neg b4] at hone ⊢
              by_cases b5 : begL c = 5
              · rw [if_pos b5] at hone ⊢
                have hpos := signL_pos c t (beg_sign c b5)
                have hsl := (signL_le (c :: t)).1
                rw [List.length_cons] at hsl
                exact on _ _ _ hpos hsl hone
              · rw [if_neg b5] at hone ⊢
                exact stop _ _ (by decide) hone
/-- The document's Scan is the program's. -/
theorem rscan_ev (l : List UInt8) : Ev (fun k => refrainref5_Scan.f k (B l)) (scan l) := by
  unfold scan
  by_cases hl : 4096 < l.length
  · rw [if_pos hl]
    refine Ev.congr (fun k => ?_) (Ev.now _)
    unfold refrainref5_Scan.f
    rw [if_pos (by rw [B_size]; omega)]
  · rw [if_neg hl]
    have := scan_main l (by omega) (l.length + 1) (l.length + 1) l [] [] (Nat.le_refl _) rfl (by omega) (by simp)
    refine Ev.congr (fun k => ?_) this
    unfold refrainref5_Scan.f
    rw [if_neg (by rw [B_size]; omega)]
    rfl
end Go.Proofs.YthmcapdakplhdaaDoor.Pu
end

/-! ## text PuR6 -/
section
/- The document's speller (refrainref5), part 2: it answers as the program's; words. -/
namespace Go.Proofs.YthmcapdakplhdaaDoor.Pu
open Go Go.RowKit Go.Proofs.YthmcapdakplhdaaDoor.Pr Go.Proofs.YthmcapdakplhdaaDoorW.PrintWords Go.Proofs.YthmcapdakplhdaaDoorW.PrintLast Go.Proofs.YthmcapdakplhdaaDoorW.PrintMore
set_option linter.unusedVariables false
set_option linter.unusedSimpArgs false
/-! words -/
end Go.Proofs.YthmcapdakplhdaaDoor.Pu
end

/-! ## text PuR7 -/
section
/- A list of tokens is like itself; how many tokens a text has; the calls that the laws begin with. -/
namespace Go.Proofs.YthmcapdakplhdaaDoor.Pu
open Go Go.RowKit Go.Proofs.YthmcapdakplhdaaDoor.Pr Go.Proofs.YthmcapdakplhdaaDoorW.PrintWords Go.Proofs.YthmcapdakplhdaaDoorW.PrintLast Go.Proofs.YthmcapdakplhdaaDoorW.PrintMore
set_option linter.unusedVariables false
set_option linter.unusedSimpArgs false
set_option maxRecDepth 100000
theorem eqRefl_ev (xs : List S44) (hx : xs.length ≤ 4611686018427387904) : ∀ (ts : List S44) (i : Nat), xs.drop i = ts → i + ts.length = xs.length → Ev (fun k => refrainlaw5_eqToks.l0 k xs xs (i : Int)) true
  | [], i, hd, hl => by
    simp only [List.length_nil] at hl
    refine Ev.step (f := fun _ => some _) (fun k => ?_) (Ev.now _)
    simp only [refrainlaw5_eqToks.l0]
    rw [if_neg (by omega)]
  | t :: ts, i, hd, hl => by
    simp only [List.length_cons] at hl
    have ih := eqRefl_ev xs hx ts (i + 1) (by rw [← List.drop_drop, hd]; rfl) (by omega)
    refine Ev.step (fun k => ?_) ih
    simp only [refrainlaw5_eqToks.l0]
    rw [if_pos (by omega), if_pos (by omega), if_pos (by omega), if_neg (by simp), w1 _ (by omega)]
theorem eqToks_refl (xs : List S44) (hx : xs.length ≤ 4611686018427387904) : Ev (fun k => refrainlaw5_eqToks.f k xs xs) true := by
  have h := eqRefl_ev xs hx xs 0 rfl (by omega)
  refine Ev.congr (fun k => ?_) h
  unfold refrainlaw5_eqToks.f
  rw [if_pos rfl]; rfl
theorem scanL_len : ∀ (f : Nat) (rest : List UInt8) (out : List S44) (pos : Nat), (scanL f rest out pos).1.length ≤ out.length + f
  | 0, _, _, _ => by simp [scanL]
  | f + 1, [], out, pos => by simp [scanL]
  | f + 1, c :: t, out, pos => by
    have ih := scanL_len f
    rw [scanL]
    split
    · exact Nat.le_trans (ih _ _ _) (by omega)
    split
    · exact Nat.le_trans (ih _ _ _) (by omega)
    split
    · split
      · simp
      · exact Nat.le_trans (ih _ _ _) (by simp only [List.length_append, List.length_singleton]; omega)
    split
    · split
      · exact Nat.le_trans (ih _ _ _) (by simp only [List.length_append, List.length_singleton]; omega)
      · simp
    split
    · split
      · exact Nat.le_trans (ih _ _ _) (by simp only [List.length_append, List.length_singleton]; omega)
      · simp
    split
    · exact Nat.le_trans (ih _ _ _) (by simp only [List.length_append, List.length_singleton]; omega)
    · simp
theorem scan_len (l : List UInt8) : (scan l).1.length ≤ 4097 := by
  unfold scan
  by_cases h : 4096 < l.length
  · rw [if_pos h]; simp
  · rw [if_neg h]
    exact Nat.le_trans (scanL_len _ _ _ _) (by simp only [List.length_nil]; omega)
theorem begun_scan : scan [97, 46, 98, 32, 62, 61, 32, 49, 50] = ([⟨1, B [97], 0⟩, ⟨4, B [46], 1⟩, ⟨1, B [98], 2⟩, ⟨4, B [62, 61], 4⟩, ⟨2, B [49, 50], 7⟩, ⟨5, B [], 9⟩], 0, 0) := by kernel_rfl
theorem begun_spell : spellOk canT [(⟨4, (⟨#[45]⟩ : ByteArray), 0⟩ : S44), (⟨4, (⟨#[45]⟩ : ByteArray), 0⟩ : S44), (⟨2, (⟨#[53]⟩ : ByteArray), 0⟩ : S44)] = true ∧ spellW quoB [(⟨4, (⟨#[45]⟩ : ByteArray), 0⟩ : S44), (⟨4, (⟨#[45]⟩ : ByteArray), 0⟩ : S44), (⟨2, (⟨#[53]⟩ : ByteArray), 0⟩ : S44)] [] = (B [45, 32, 45, 32, 53], 0) := ⟨by kernel_rfl, by kernel_rfl⟩
theorem begun_words : wordIn (B [83, 69, 81]) = true ∧ wordIn (B [115, 101, 113]) = false := by
  have h : ∀ l : List UInt8, wordIn (B l) = (G0c0.map (fun y => y.data.toList)).any (fun y => l == y) := by
    intro l
    unfold wordIn
    rw [List.any_map]
    congr 1
    funext y
    show ((B l).toList == y.toList) = (l == y.data.toList)
    rw [B_toList, tl_data]
  rw [h, h]
  exact ⟨by decide, by decide⟩
theorem begun5 : ∃ q, refrainlaw5_begun.f q = some true := by
  obtain ⟨k, h⟩ := Ev.rounds (scan_ev [97, 46, 98, 32, 62, 61, 32, 49, 50])
  refine ⟨k, ?_⟩
  rw [begun_scan] at h
  unfold refrainlaw5_begun.f
  rw [show token_Scan.f k (⟨#[97, 46, 98, 32, 62, 61, 32, 49, 50]⟩ : ByteArray) = _ from h, Option.bind_some]
  have hs : token_Spell.f [(⟨4, (⟨#[45]⟩ : ByteArray), 0⟩ : S44), (⟨4, (⟨#[45]⟩ : ByteArray), 0⟩ : S44), (⟨2, (⟨#[53]⟩ : ByteArray), 0⟩ : S44)] = some (B [45, 32, 45, 32, 53], 0) := by
    unfold token_Spell.f
    rw [if_pos ⟨by simp, by intro t ht; simp at ht; rcases ht with rfl | rfl <;> (show (1 : Nat) ≤ _; omega)⟩, if_pos begun_spell.1, begun_spell.2]
  rw [hs, Option.bind_some, if_pos rfl, if_pos rfl, if_pos (by decide), if_pos (by decide)]
  rw [if_pos (by
    show ((4 : Int) == 4 && (((B [62, 61]).toList == ([62, 61] : List UInt8)) && ((4 : Int) == 4))) = true
    rw [B_toList]; decide), if_pos rfl, if_pos (B_toList _)]
  show ((some (wordIn (B [83, 69, 81]))).bind fun t543 => (if t543 = true then ((some (wordIn (B [115, 101, 113]))).bind fun t544 => (some (!t544))) else (some false))) = some true
  rw [begun_words.1, begun_words.2]; rfl
end Go.Proofs.YthmcapdakplhdaaDoor.Pu
end

/-! ## text PureTokenFreshU -/
section
namespace Go.Proofs.YthmcapdakplhdaaDoor.tokenFresh
open Go Go.RowKit Go.Proofs.YthmcapdakplhdaaDoor.Pr Go.Proofs.YthmcapdakplhdaaDoor.Pu Go.Proofs.YthmcapdakplhdaaDoor.Opn Go.Proofs.YthmcapdakplhdaaDoorW.PrintWords Go.Proofs.YthmcapdakplhdaaDoorW.PrintLast Go.Proofs.YthmcapdakplhdaaDoorW.PrintMore
set_option linter.unusedVariables false
theorem scan_ok (s : ByteArray) : ScanOk s := by
  have h1 := scan_ev s.data.toList
  have h2 := rscan_ev s.data.toList
  have hl := scan_len s.data.toList
  rw [B_of] at h1 h2
  obtain ⟨⟨r, a, e⟩, hr⟩ : ∃ x, scan s.data.toList = x := ⟨_, rfl⟩
  rw [hr] at h1 h2 hl
  have h3 := eqToks_refl r (by simp only [] at hl; omega)
  have h : Ev (fun k => refrainlaw5_scanned.f k s) (r, r, true) := by
    unfold refrainlaw5_scanned.f
    refine Ev.bind h1 (Ev.bind h2 ?_)
    simp only [if_true]
    exact Ev.bind h3 (Ev.now _)
  obtain ⟨k, hk⟩ := h.rounds
  exact ⟨k, r, hl, hk⟩
theorem sum_len : ∀ x : List ByteArray, x.length ≤ (x.map fun s : ByteArray => s.size + 1).sum
  | [] => by simp
  | s :: x => by
    have := sum_len x
    simp only [List.map_cons, List.sum_cons, List.length_cons]
    omega
theorem pureG : PureG := by
  intro x hG hb
  refine ⟨0, ?_⟩
  have hl := sum_len x
  unfold refrainlaw5_TokenFresh.f
  rw [if_pos ⟨by unfold bulkM at hb; omega, fun s _ => scan_ok s, fun r hr => (eqToks_refl r (by omega)).rounds, begun5⟩]
end Go.Proofs.YthmcapdakplhdaaDoor.tokenFresh
end

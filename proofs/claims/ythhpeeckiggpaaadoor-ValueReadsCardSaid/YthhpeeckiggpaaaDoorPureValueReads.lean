import Derived.Test.YthhpeeckiggpaaaDoorPvRefRead
import Derived.Test.YthhpeeckiggpaaaDoorOpnValueReads
namespace Go.Proofs.YthhpeeckiggpaaaDoor.valueReads
open Go Go.RowKit Go.Proofs.YthhpeeckiggpaaaDoor.Pr Go.Proofs.YthhpeeckiggpaaaDoor.Opn Go.Proofs.YthhpeeckiggpaaaDoor.Pu Go.Proofs.YthhpeeckiggpaaaDoor.Pv Go.Proofs.YthhpeeckiggpaaaDoorW.PrintWords Go.Proofs.YthhpeeckiggpaaaDoorW.PrintLast Go.Proofs.YthhpeeckiggpaaaDoorW.PrintMore
set_option linter.unusedVariables false
set_option linter.unusedSimpArgs false

theorem rdB (l : List ByteArray) (i : Nat) (h : i < l.length) : rdOf ByteArray.empty l (i : Int) = l[i] := by
  unfold rdOf
  simp [h]
/-- A value's text is never empty, and never long. -/
theorem text_size (x : SV) (h : okV x = true) (hn : -9223372036854775808 ≤ x.f1 ∧ x.f1 ≤ 9223372036854775807) (l : List UInt8) (e : showV x.f0 x.f1 x.f2 x.f3 = (B l, 0)) : 1 ≤ l.length ∧ l.length ≤ 1026 := by
  rcases show_shape x h with ⟨_, _, _, s⟩ | ⟨_, _, _, hs, s⟩ | ⟨_, _, _, s⟩
  · rw [s] at e
    have e1 : Lib.itoa x.f1 = l := B_inj (congrArg Prod.fst e)
    obtain ⟨c, r, a, _⟩ := itoa_head x.f1
    have := Lib.itoa_length_le x.f1 hn.1 hn.2
    rw [← e1]
    exact ⟨by rw [a, List.length_cons]; omega, by omega⟩
  · rw [s] at e
    have e1 : qvs x.f2.data.toList = l := B_inj (congrArg Prod.fst e)
    have f := fm_len x.f2.data.toList
    have d := data_len x.f2
    rw [← e1]
    unfold qvs
    simp only [List.length_cons, List.length_append, List.length_nil]
    omega
  · rw [s] at e
    have e1 : (if x.f3 then (⟨#[84, 82, 85, 69]⟩ : ByteArray) else ⟨#[70, 65, 76, 83, 69]⟩) = B l := congrArg Prod.fst e
    have : (if x.f3 then ([84, 82, 85, 69] : List UInt8) else [70, 65, 76, 83, 69]) = l := by
      have h2 := congrArg (fun s => s.data.toList) e1
      rw [B_data] at h2
      rw [← h2]
      split <;> rfl
    rw [← this]
    split <;> decide
/-- The first byte of a value's text. -/
theorem text_head (x : SV) (h : okV x = true) (c : UInt8) (t : List UInt8) (e : showV x.f0 x.f1 x.f2 x.f3 = (B (c :: t), 0)) :
    (x.f0 = 1 ∧ x.f2 = ⟨#[]⟩ ∧ x.f3 = false ∧ Lib.itoa x.f1 = c :: t ∧ (c.toNat = 45 ∨ 48 ≤ c.toNat ∧ c.toNat ≤ 57)) ∨ (x.f0 = 2 ∧ x.f1 = 0 ∧ x.f3 = false ∧ qvs x.f2.data.toList = c :: t ∧ c.toNat = 34) ∨ (x = ⟨3, 0, ⟨#[]⟩, true⟩ ∧ c.toNat = 84) ∨ (x = ⟨3, 0, ⟨#[]⟩, false⟩ ∧ c.toNat = 70) := by
  rcases show_shape x h with ⟨a, b, d, s⟩ | ⟨a, b, d, hs, s⟩ | ⟨a, b, d, s⟩
  · rw [s] at e
    have e1 : Lib.itoa x.f1 = c :: t := B_inj (congrArg Prod.fst e)
    obtain ⟨c', r, q, hc⟩ := itoa_head x.f1
    have : c' = c := by rw [q] at e1; exact (List.cons.inj e1).1
    subst this
    exact .inl ⟨a, b, d, e1, hc⟩
  · rw [s] at e
    have e1 : qvs x.f2.data.toList = c :: t := B_inj (congrArg Prod.fst e)
    have : (34 : UInt8) = c := (List.cons.inj e1).1
    exact .inr (.inl ⟨a, b, d, e1, by rw [← this]; rfl⟩)
  · rw [s] at e
    obtain ⟨x0, x1, x2, x3⟩ := x
    dsimp only at a b d e
    subst a; subst b; subst d
    have e1 := congrArg (fun s => s.data.toList) (congrArg Prod.fst e)
    cases x3
    · have : (70 : UInt8) = c := (List.cons.inj e1).1
      exact .inr (.inr (.inr ⟨rfl, by rw [← this]; rfl⟩))
    · have : (84 : UInt8) = c := (List.cons.inj e1).1
      exact .inr (.inr (.inl ⟨rfl, by rw [← this]; rfl⟩))
/-- The reference reads what the program reads. -/
theorem refread_ev (l : List UInt8) (hl : l.length ≤ 140737488351232) : Ev (fun k => refrainref1_Read.f k (B l)) (readP l) := by
  have bad : (l.length > 1026 ∨ l = []) → readP l = (0, 0, ⟨#[]⟩, false, 12) := fun h => by
    apply read_fail
    intro e
    obtain ⟨a, b, c1, c2⟩ := read_ok e
    have := text_size ⟨(readP l).1, (readP l).2.1, (readP l).2.2.1, (readP l).2.2.2.1⟩ b ⟨c1, c2⟩ l a
    rcases h with h | h
    · omega
    · subst h; simp at this
  unfold refrainref1_Read.f
  by_cases hbig : l.length > 1026
  · simp only [if_pos (show ((B l).size : Int) > 1026 by rw [B_size]; omega)]
    refine Ev.step (fun k => refrainref1_Read.j0.eq_2 _ _ k) ?_
    simp only [if_pos]
    rw [bad (.inl hbig)]
    exact Ev.now _
  simp only [if_neg (show ¬ ((B l).size : Int) > 1026 by rw [B_size]; omega), B_toList]
  cases l with
  | nil =>
    refine Ev.step (fun k => refrainref1_Read.j0.eq_2 _ _ k) ?_
    simp only [beq_self_eq_true, if_pos]
    rw [bad (.inr rfl)]
    exact Ev.now _
  | cons c t =>
    have hne : ((c :: t : List UInt8) == []) = false := rfl
    have hsz : (B (c :: t)).size = t.length + 1 := by rw [B_size]; rfl
    have hlt : t.length + 1 ≤ 1026 := by have h := hbig; rw [List.length_cons] at h; omega
    have hb : bt (B (c :: t)) 0 = (c.toNat : Int) := bt_mid [] c t
    rw [hne]
    refine Ev.step (fun k => refrainref1_Read.j0.eq_2 _ _ k) ?_
    simp only [Bool.false_eq_true, if_false]
    refine Ev.bind (f := fun k t => _) (guessed_ev (c :: t) hl) ?_
    simp only [if_pos (show 0 < ((B (c :: t)).size : Int) by rw [hsz]; omega), hb]
    by_cases h34 : (c.toNat : Int) = 34
    · simp only [if_pos h34]
      have tot : ∃ r, Ev (fun k => refrainref1_unquoted.f k (B (c :: t))) (2, 0, r, false) := unq_tot (B (c :: t)) (by rw [hsz]; omega) (by rw [hsz]; omega) _ 1 [] (Nat.le_refl _) (by simp) (by omega)
      obtain ⟨r, hr⟩ := tot
      refine Ev.bind (f := fun k t => _) hr ?_
      refine Ev.bind (f := fun k t => _) (refshow_ev 2 0 r false (by omega) (by omega)) ?_
      have := try_ev (c :: t) ⟨2, 0, r, false⟩ ⟨by show (-9223372036854775808 : Int) ≤ 0; omega, by show (0 : Int) ≤ 9223372036854775807; omega⟩ (fun w hw wr e => by
        rcases text_head w hw c t e with ⟨_, _, _, _, h⟩ | ⟨a, b, d, q, _⟩ | ⟨_, h⟩ | ⟨_, h⟩
        · omega
        · have h1 := refunq_qvs w.f2.data.toList (by rw [q, List.length_cons]; exact hlt)
          rw [q] at h1
          obtain ⟨k1, e1⟩ := hr
          obtain ⟨k2, e2⟩ := h1
          have e3 := (e1 (k1 + k2) (by omega)).symm.trans (e2 (k1 + k2) (by omega))
          have e4 : r = w.f2 := by
            have := congrArg (fun (o : Option (Int × Int × ByteArray × Bool)) => (o.getD (0, 0, ⟨#[]⟩, false)).2.2.1) e3
            simpa [B_of] using this
          obtain ⟨w0, w1, w2, w3⟩ := w
          dsimp only at a b d e4
          subst a; subst b; subst d; subst e4
          rfl
        · omega
        · omega)
      dsimp only at this ⊢
      refine Ev.congr (f := fun _ => some (readP (c :: t))) (fun k => ?_) (Ev.now _)
      rw [← this]
      repeat' split
      all_goals rfl
    simp only [if_neg h34]
    by_cases h84 : (c.toNat : Int) = 84
    · simp only [if_pos h84]
      refine Ev.bind (f := fun k t => _) (refshow_ev 3 0 ⟨#[]⟩ true (by omega) (by omega)) ?_
      have := try_ev (c :: t) ⟨3, 0, ⟨#[]⟩, true⟩ ⟨by show (-9223372036854775808 : Int) ≤ 0; omega, by show (0 : Int) ≤ 9223372036854775807; omega⟩ (fun w hw wr e => by
        rcases text_head w hw c t e with ⟨_, _, _, _, h⟩ | ⟨_, _, _, _, h⟩ | ⟨h, _⟩ | ⟨_, h⟩
        · omega
        · omega
        · exact h
        · omega)
      dsimp only at this ⊢
      refine Ev.congr (f := fun _ => some (readP (c :: t))) (fun k => ?_) (Ev.now _)
      rw [← this]
      repeat' split
      all_goals rfl
    simp only [if_neg h84]
    by_cases h70 : (c.toNat : Int) = 70
    · simp only [if_pos h70]
      refine Ev.bind (f := fun k t => _) (refshow_ev 3 0 ⟨#[]⟩ false (by omega) (by omega)) ?_
      have := try_ev (c :: t) ⟨3, 0, ⟨#[]⟩, false⟩ ⟨by show (-9223372036854775808 : Int) ≤ 0; omega, by show (0 : Int) ≤ 9223372036854775807; omega⟩ (fun w hw wr e => by
        rcases text_head w hw c t e with ⟨_, _, _, _, h⟩ | ⟨_, _, _, _, h⟩ | ⟨_, h⟩ | ⟨h, _⟩
        · omega
        · omega
        · omega
        · exact h)
      dsimp only at this ⊢
      refine Ev.congr (f := fun _ => some (readP (c :: t))) (fun k => ?_) (Ev.now _)
      rw [← this]
      repeat' split
      all_goals rfl
    simp only [if_neg h70]
    obtain ⟨n, hg, n0, n1⟩ := gP_shape (c :: t)
    rw [hg]
    refine Ev.bind (f := fun k t => _) (refshow_ev 1 n ⟨#[]⟩ false n0 n1) ?_
    have := try_ev (c :: t) ⟨1, n, ⟨#[]⟩, false⟩ ⟨n0, n1⟩ (fun w hw wr e => by
      rcases text_head w hw c t e with ⟨a, b, d, q, _⟩ | ⟨_, _, _, _, h⟩ | ⟨_, h⟩ | ⟨_, h⟩
      · have h1 := gP_itoa w.f1 wr.1 wr.2
        rw [q, hg] at h1
        have e4 : n = w.f1 := congrArg (fun (o : Int × Int × ByteArray × Bool) => o.2.1) h1
        obtain ⟨w0, w1, w2, w3⟩ := w
        dsimp only at a b d e4
        subst a; subst b; subst d; subst e4
        rfl
      · omega
      · omega
      · omega)
    dsimp only at this ⊢
    refine Ev.congr (f := fun _ => some (readP (c :: t))) (fun k => ?_) (Ev.now _)
    rw [← this]
    repeat' split
    all_goals rfl
theorem loop0 (l0 : List ByteArray) (h0 : l0.length ≤ 281474976710656) (hs : ∀ s ∈ l0, s.size ≤ 140737488351232) : ∀ (m i : Nat), l0.length - i = m → i ≤ l0.length → Ev (fun k => refrainlaw1_ValueReads.l0 k l0 (i : Int)) true := by
  intro m
  induction m with
  | zero =>
    intro i hm hi
    refine Ev.step (fun k => refrainlaw1_ValueReads.l0.eq_2 _ _ k) ?_
    simp only [if_neg (show ¬ (i : Int) < (l0.length : Int) by omega)]
    exact Ev.now _
  | succ m ih =>
    intro i hm hi
    have hlt : i < l0.length := by omega
    refine Ev.step (fun k => refrainlaw1_ValueReads.l0.eq_2 _ _ k) ?_
    simp only [if_pos (show (i : Int) < (l0.length : Int) by omega), if_pos (show (0 : Int) ≤ (i : Int) by omega), rdB l0 i hlt]
    have hz := hs _ (List.getElem_mem hlt)
    generalize l0[i] = s at hz
    have nx : Ev (fun k => refrainlaw1_ValueReads.l0 k l0 (wrap64 ((i : Int) + 1))) true := by
      rw [w64 (by omega) (by omega)]
      exact ih (i + 1) (by omega) (by omega)
    have h1 := read_ev s.data.toList (by rw [data_len]; exact hz)
    have h2 := refread_ev s.data.toList (by rw [data_len]; exact hz)
    rw [B_of] at h1 h2
    refine Ev.bind (f := fun k t => _) h1 ?_
    refine Ev.bind (f := fun k t => _) h2 ?_
    simp only [if_pos, beq_self_eq_true, Bool.not_true, Bool.or_false, Bool.false_eq_true, if_false]
    exact nx
theorem pureG : PureG := by
  intro l0 g0
  refine Ev.rounds (?_ : Ev (fun k => refrainlaw1_ValueReads.f k l0) true)
  unfold refrainlaw1_ValueReads.f
  refine Ev.bind (f := fun k t => _) begun_ev ?_
  simp only [if_pos]
  have n0 := g0.2.1
  exact loop0 l0 (by omega) g0.2.2 _ 0 rfl (by omega)
end Go.Proofs.YthhpeeckiggpaaaDoor.valueReads

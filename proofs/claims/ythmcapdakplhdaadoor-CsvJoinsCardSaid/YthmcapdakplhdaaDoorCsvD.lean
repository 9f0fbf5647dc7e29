import Derived.Test.YthmcapdakplhdaaDoorCsvJ
/- What a cell's reader leaves of the text is the text from its new place on. -/
namespace Go.Proofs.YthmcapdakplhdaaDoor.CsvP
theorem qd_drop : ∀ (n : Nat) (rest acc : List UInt8) (p : Nat) (x : List UInt8 × List UInt8 × Nat), rest.length = n → qd rest acc p = some x → ∃ k, x.2.1 = rest.drop k ∧ x.2.2 = p + k := by
  intro n
  induction n using Nat.strongRecOn with
  | _ n ih =>
    intro rest acc p x hn h
    match rest, hn with
    | [], _ => simp [qd] at h
    | [c], _ =>
      simp only [qd] at h
      split at h
      · cases h; exact ⟨1, rfl, rfl⟩
      · cases h
    | c :: d :: t, hn =>
      simp only [qd] at h
      split at h
      · split at h
        · obtain ⟨k, h1, h2⟩ := ih t.length (by simp at hn; omega) t _ _ x rfl h
          exact ⟨k + 2, by simpa using h1, by omega⟩
        · cases h; exact ⟨1, rfl, rfl⟩
      · obtain ⟨k, h1, h2⟩ := ih (d :: t).length (by simp at hn ⊢; omega) (d :: t) _ _ x rfl h
        exact ⟨k + 1, by simpa using h1, by omega⟩
theorem pl_drop : ∀ (rest acc : List UInt8) (p : Nat) (x : List UInt8 × List UInt8 × Nat), pl rest acc p = .ok x → ∃ k, x.2.1 = rest.drop k ∧ x.2.2 = p + k
  | [], acc, p, x, h => by
    simp only [pl] at h
    cases h; exact ⟨0, rfl, rfl⟩
  | c :: t, acc, p, x, h => by
    simp only [pl] at h
    split at h
    · cases h; exact ⟨0, rfl, rfl⟩
    · split at h
      · cases h
      · obtain ⟨k, h1, h2⟩ := pl_drop t _ _ x h
        exact ⟨k + 1, by simpa using h1, by omega⟩
theorem cell_drop (rest : List UInt8) (p : Nat) (x : List UInt8 × List UInt8 × Nat) (h : cellL rest p = .ok x) : ∃ k, x.2.1 = rest.drop k ∧ x.2.2 = p + k := by
  unfold cellL at h
  split at h
  · split at h
    · cases h
    · rename_i t y hq
      cases h
      obtain ⟨k, h1, h2⟩ := qd_drop _ _ _ _ _ rfl hq
      exact ⟨k + 1, by simpa using h1, by omega⟩
  · exact pl_drop _ _ _ _ h
theorem row_drop : ∀ (f : Nat) (rest : List UInt8) (p : Nat) (row row' : Row) (r : List UInt8) (q : Nat), rowL f rest p row = .ok (row', r, q) → ∃ k, r = rest.drop k ∧ q = p + k := by
  intro f
  induction f with
  | zero => intro rest p row row' r q h; simp [rowL] at h
  | succ f ih =>
    intro rest p row row' r q h
    rw [rowL] at h
    cases hc : cellL rest p with
    | error z => rw [hc] at h; simp at h
    | ok x =>
      obtain ⟨s, r1, q1⟩ := x
      obtain ⟨k, hk1, hk2⟩ := cell_drop rest p (s, r1, q1) hc
      simp only at hk1 hk2
      rw [hc] at h
      match r1, hk1 with
      | [], hk1 =>
        simp only [Except.ok.injEq, Prod.mk.injEq] at h
        obtain ⟨_, rfl, rfl⟩ := h
        exact ⟨k, hk1, hk2⟩
      | c :: t, hk1 =>
        have ht : t = rest.drop (k + 1) := by rw [← List.drop_drop, ← hk1]; rfl
        simp only at h
        by_cases c1 : c = 44
        · rw [if_pos c1] at h
          obtain ⟨k2, h1, h2⟩ := ih t (q1 + 1) (row ++ [s]) row' r q h
          exact ⟨k + 1 + k2, by rw [h1, ht, List.drop_drop], by omega⟩
        · rw [if_neg c1] at h
          by_cases c2 : c = 10
          · rw [if_pos c2] at h
            simp only [Except.ok.injEq, Prod.mk.injEq] at h
            obtain ⟨_, rfl, rfl⟩ := h
            exact ⟨k + 1, ht, by omega⟩
          · rw [if_neg c2] at h
            by_cases c3 : c = 13
            · rw [if_pos c3] at h
              match t, h, ht with
              | [], h, _ => simp at h
              | d :: u, h, ht =>
                by_cases hd : d = 10
                · subst hd
                  simp only [Except.ok.injEq, Prod.mk.injEq] at h
                  obtain ⟨_, rfl, rfl⟩ := h
                  exact ⟨k + 2, by rw [show k + 2 = (k + 1) + 1 by omega, ← List.drop_drop, ← ht]; rfl, by omega⟩
                · simp [hd] at h
            · rw [if_neg c3] at h
              simp at h
theorem pl_err : ∀ (rest acc : List UInt8) (p q : Nat), pl rest acc p = .error q → p ≤ q ∧ q < p + rest.length
  | [], acc, p, q, h => by simp [pl] at h
  | c :: t, acc, p, q, h => by
    simp only [pl] at h
    split at h
    · cases h
    · split at h
      · cases h; exact ⟨Nat.le_refl _, by simp⟩
      · have := pl_err t _ _ q h
        rw [List.length_cons]
        omega
theorem cell_err (rest : List UInt8) (p q : Nat) (h : cellL rest p = .error q) : p ≤ q ∧ q < p + rest.length := by
  unfold cellL at h
  split at h
  · split at h
    · cases h; exact ⟨Nat.le_refl _, by simp⟩
    · cases h
  · exact pl_err _ _ _ _ h
theorem row_err : ∀ (f : Nat) (rest : List UInt8) (p : Nat) (row : Row) (q : Nat) (e : Int), rest.length + 1 < f → rowL f rest p row = .error (q, e) → (e = 40 ∨ e = 41) ∧ p ≤ q ∧ q < p + rest.length := by
  intro f
  induction f with
  | zero => intro rest p row q e hf; omega
  | succ f ih =>
    intro rest p row q e hf h
    rw [rowL] at h
    cases hc : cellL rest p with
    | error z =>
      rw [hc] at h
      simp only [Except.error.injEq, Prod.mk.injEq] at h
      obtain ⟨rfl, rfl⟩ := h
      exact ⟨.inl rfl, cell_err _ _ _ hc⟩
    | ok x =>
      obtain ⟨s, r1, q1⟩ := x
      have hl := cell_len rest p (s, r1, q1) hc
      obtain ⟨k, hk1, hk2⟩ := cell_drop rest p (s, r1, q1) hc
      simp only at hl hk1 hk2
      rw [hc] at h
      match r1, hl with
      | [], hl => simp at h
      | c :: t, hl =>
        rw [List.length_cons] at hl
        simp only at h
        by_cases c1 : c = 44
        · rw [if_pos c1] at h
          have := ih t (q1 + 1) (row ++ [s]) q e (by omega) h
          exact ⟨this.1, by omega, by omega⟩
        · rw [if_neg c1] at h
          by_cases c2 : c = 10
          · rw [if_pos c2] at h; simp at h
          · rw [if_neg c2] at h
            by_cases c3 : c = 13
            · rw [if_pos c3] at h
              match t, h, hl with
              | [], h, hl =>
                simp only [Except.error.injEq, Prod.mk.injEq] at h
                obtain ⟨rfl, rfl⟩ := h
                exact ⟨.inr rfl, by omega, by omega⟩
              | d :: u, h, hl =>
                by_cases hd : d = 10
                · subst hd; simp at h
                · simp [hd] at h
                  obtain ⟨rfl, rfl⟩ := h
                  exact ⟨.inr rfl, by omega, by omega⟩
            · rw [if_neg c3] at h
              simp only [Except.error.injEq, Prod.mk.injEq] at h
              obtain ⟨rfl, rfl⟩ := h
              exact ⟨.inl rfl, by omega, by omega⟩
end Go.Proofs.YthmcapdakplhdaaDoor.CsvP

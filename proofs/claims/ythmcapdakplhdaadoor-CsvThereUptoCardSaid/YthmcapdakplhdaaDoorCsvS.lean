import Derived.Test.YthmcapdakplhdaaDoorCsvD
/- Reading does not hang on the place and on what was read before. -/
namespace Go.Proofs.YthmcapdakplhdaaDoor.CsvP
set_option linter.unusedVariables false
set_option linter.unusedSimpArgs false
def SimC : Except Nat (List UInt8 × List UInt8 × Nat) → Except Nat (List UInt8 × List UInt8 × Nat) → Prop
  | .ok (s, r, _), .ok (s', r', _) => s = s' ∧ r = r'
  | .error _, .error _ => True
  | _, _ => False
def SimO : Option (List UInt8 × List UInt8 × Nat) → Option (List UInt8 × List UInt8 × Nat) → Prop
  | some (s, r, _), some (s', r', _) => s = s' ∧ r = r'
  | none, none => True
  | _, _ => False
def SimR : Except (Nat × Int) (Row × List UInt8 × Nat) → Except (Nat × Int) (Row × List UInt8 × Nat) → Prop
  | .ok (s, r, _), .ok (s', r', _) => s = s' ∧ r = r'
  | .error (_, e), .error (_, e') => e = e'
  | _, _ => False
theorem pl_sim : ∀ (rest acc : List UInt8) (p p' : Nat), SimC (pl rest acc p) (pl rest acc p')
  | [], _, _, _ => ⟨rfl, rfl⟩
  | c :: t, acc, p, p' => by
    simp only [pl]
    split
    · exact ⟨rfl, rfl⟩
    · split
      · trivial
      · exact pl_sim t _ _ _
theorem qd_sim : ∀ (n : Nat) (rest acc : List UInt8) (p p' : Nat), rest.length = n → SimO (qd rest acc p) (qd rest acc p') := by
  intro n
  induction n using Nat.strongRecOn with
  | _ n ih =>
    intro rest acc p p' hn
    match rest, hn with
    | [], _ => trivial
    | [c], _ =>
      simp only [qd]
      split
      · exact ⟨rfl, rfl⟩
      · trivial
    | c :: d :: t, hn =>
      simp only [qd]
      split
      · split
        · exact ih t.length (by simp at hn; omega) t _ _ _ rfl
        · exact ⟨rfl, rfl⟩
      · exact ih (d :: t).length (by simp at hn ⊢; omega) (d :: t) _ _ _ rfl
theorem cell_sim (rest : List UInt8) (p p' : Nat) : SimC (cellL rest p) (cellL rest p') := by
  unfold cellL
  split
  · rename_i t
    have h := qd_sim _ t [] (p + 1) (p' + 1) rfl
    revert h
    cases qd t [] (p + 1) <;> cases qd t [] (p' + 1) <;> intro h
    · trivial
    · exact h.elim
    · exact h.elim
    · exact h
  · exact pl_sim _ _ _ _
theorem row_sim : ∀ (f : Nat) (rest : List UInt8) (p p' : Nat) (row : Row), SimR (rowL f rest p row) (rowL f rest p' row) := by
  intro f
  induction f with
  | zero => intro rest p p' row; exact rfl
  | succ f ih =>
    intro rest p p' row
    have hc := cell_sim rest p p'
    rw [rowL, rowL]
    revert hc
    rcases cellL rest p with q | ⟨s, r, q⟩ <;> rcases cellL rest p' with q' | ⟨s', r', q'⟩ <;> intro hc
    · exact rfl
    · exact hc.elim
    · exact hc.elim
    · obtain ⟨rfl, rfl⟩ := hc
      match r with
      | [] => exact ⟨rfl, rfl⟩
      | c :: t =>
        simp only
        split
        · exact ih _ _ _ _
        · split
          · exact ⟨rfl, rfl⟩
          · split
            · split
              · exact ⟨rfl, rfl⟩
              · exact rfl
            · exact rfl
theorem spl_step (f : Nat) (rest : List UInt8) (p : Nat) (rows : List Row) (h : rest ≠ []) :
    splL (f + 1) rest p rows = (match rowL (rest.length + 2) rest p [] with | .error (q, e) => ([], q, e) | .ok (row, r, q) => splL f r q (rows ++ [row])) := by
  match rest, h with
  | c :: t, _ => rfl
theorem spl_sim : ∀ (f f' : Nat) (rest : List UInt8) (p p' : Nat) (acc acc' : List Row), rest.length < f → rest.length < f' →
    (splL f rest p acc).2.2 = (splL f' rest p' acc').2.2 ∧ ((splL f rest p acc).2.2 = 0 → ∃ r, (splL f rest p acc).1 = acc ++ r ∧ (splL f' rest p' acc').1 = acc' ++ r ∧ (splL f rest p acc).2.1 = 0) ∧ ((splL f rest p acc).2.2 ≠ 0 → (splL f rest p acc).1 = [] ∧ p ≤ (splL f rest p acc).2.1 ∧ (splL f rest p acc).2.1 < p + rest.length ∧ ((splL f rest p acc).2.2 = 40 ∨ (splL f rest p acc).2.2 = 41)) := by
  intro f
  induction f with
  | zero => intro f' rest p p' acc acc' h; omega
  | succ f ih =>
    intro f' rest p p' acc acc' hf hf'
    obtain ⟨f'', rfl⟩ : ∃ k, f' = k + 1 := ⟨f' - 1, by omega⟩
    by_cases hne : rest = []
    · subst hne
      exact ⟨rfl, fun _ => ⟨[], by simp [splL], by simp [splL], rfl⟩, fun h => absurd rfl h⟩
    · rw [spl_step f rest p acc hne, spl_step f'' rest p' acc' hne]
      have hs := row_sim (rest.length + 2) rest p p' []
      revert hs
      rcases h1 : rowL (rest.length + 2) rest p [] with ⟨q, e⟩ | ⟨row, r, q⟩ <;> rcases h2 : rowL (rest.length + 2) rest p' [] with ⟨q', e'⟩ | ⟨row', r', q'⟩ <;> intro hs
      · have he : e = e' := hs
        subst he
        have hr := row_err _ _ _ _ _ _ (by omega) h1
        refine ⟨rfl, fun h => ?_, fun _ => ⟨rfl, hr.2.1, hr.2.2, hr.1⟩⟩
        have h : e = 0 := h
        rcases hr.1 with h3 | h3 <;> rw [h3] at h <;> cases h
      · exact hs.elim
      · exact hs.elim
      · obtain ⟨rfl, rfl⟩ := hs
        have hl := row_len _ _ _ _ _ _ _ h1
        have hl2 := hl.2.1 hne
        obtain ⟨h3, h4, h5⟩ := ih f'' r q q' (acc ++ [row]) (acc' ++ [row]) (by omega) (by omega)
        refine ⟨h3, fun h => ?_, fun h => ?_⟩
        · obtain ⟨x, hx1, hx2, hx3⟩ := h4 h
          exact ⟨row :: x, by rw [hx1]; simp, by rw [hx2]; simp, hx3⟩
        · obtain ⟨g1, g2, g3, g4⟩ := h5 h
          have := hl.2.2
          have e1 : p ≤ (splL f r q (acc ++ [row])).2.1 := by omega
          have e2 : (splL f r q (acc ++ [row])).2.1 < p + rest.length := by omega
          exact ⟨g1, e1, e2, g4⟩
theorem row_nonempty : ∀ (f : Nat) (rest : List UInt8) (p : Nat) (row row' : Row) (r : List UInt8) (q : Nat), rowL f rest p row = .ok (row', r, q) → row' ≠ [] := by
  intro f
  induction f with
  | zero => intro rest p row row' r q h; simp [rowL] at h
  | succ f ih =>
    intro rest p row row' r q h
    rw [rowL] at h
    cases hc : cellL rest p with
    | error z => rw [hc] at h; simp at h
    | ok x =>
      obtain ⟨s, r1, q1⟩ := x
      rw [hc] at h
      match r1 with
      | [] =>
        simp only [Except.ok.injEq, Prod.mk.injEq] at h
        obtain ⟨rfl, _, _⟩ := h
        simp
      | c :: t =>
        simp only at h
        by_cases c1 : c = 44
        · rw [if_pos c1] at h
          exact ih _ _ _ _ _ _ h
        · rw [if_neg c1] at h
          by_cases c2 : c = 10
          · rw [if_pos c2] at h
            simp only [Except.ok.injEq, Prod.mk.injEq] at h
            obtain ⟨rfl, _, _⟩ := h
            simp
          · rw [if_neg c2] at h
            by_cases c3 : c = 13
            · rw [if_pos c3] at h
              match t, h with
              | [], h => simp at h
              | d :: u, h =>
                by_cases hd : d = 10
                · subst hd
                  simp only [Except.ok.injEq, Prod.mk.injEq] at h
                  obtain ⟨rfl, _, _⟩ := h
                  simp
                · simp [hd] at h
            · rw [if_neg c3] at h
              simp at h
theorem spl_nonempty : ∀ (f : Nat) (rest : List UInt8) (p : Nat) (rows : List Row), (∀ r ∈ rows, r ≠ []) → ∀ r ∈ (splL f rest p rows).1, r ≠ [] := by
  intro f
  induction f with
  | zero => intro rest p rows _ r hr; simp [splL] at hr
  | succ f ih =>
    intro rest p rows hr
    by_cases hne : rest = []
    · subst hne; exact hr
    · rw [spl_step f rest p rows hne]
      rcases hrow : rowL (rest.length + 2) rest p [] with ⟨q, er⟩ | ⟨row, r, q⟩
      · intro r hr; simp at hr
      · refine ih r q (rows ++ [row]) (fun x hx => ?_)
        rcases List.mem_append.1 hx with h | h
        · exact hr x h
        · rw [List.mem_singleton.1 h]
          exact row_nonempty _ _ _ _ _ _ _ hrow
end Go.Proofs.YthmcapdakplhdaaDoor.CsvP

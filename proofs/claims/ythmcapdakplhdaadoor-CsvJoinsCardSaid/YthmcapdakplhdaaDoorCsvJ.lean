import Derived.Test.YthmcapdakplhdaaDoorCsvP

namespace Go.Proofs.YthmcapdakplhdaaDoor.CsvP
def spec (c : UInt8) : Bool := c == 44 || c == 34 || c == 13 || c == 10
def esc : List UInt8 → List UInt8
  | [] => []
  | c :: t => if c = 34 then 34 :: 34 :: esc t else c :: esc t
/-- A cell as it is written. -/
def wr (s : List UInt8) : List UInt8 := if s.any spec then 34 :: (esc s ++ [34]) else s
def rowT : Row → List UInt8
  | [] => []
  | [s] => wr s
  | s :: t :: r => wr s ++ 44 :: rowT (t :: r)
def joinT : List Row → List UInt8
  | [] => []
  | row :: rows => rowT row ++ 13 :: 10 :: joinT rows
/-- What may stand behind a cell. -/
def EndC (r : List UInt8) : Prop := r = [] ∨ ∃ c t, r = c :: t ∧ (c = 44 ∨ c = 13 ∨ c = 10)
theorem qd_esc : ∀ (s r acc : List UInt8) (p : Nat), EndC r → qd (esc s ++ 34 :: r) acc p = some (acc ++ s, r, p + (esc s).length + 1)
  | [], r, acc, p, h => by
    rcases h with rfl | ⟨c, t, rfl, hc⟩
    · simp [esc, qd]
    · have : c ≠ 34 := by rcases hc with rfl | rfl | rfl <;> decide
      simp [esc, qd, this]
  | c :: s, r, acc, p, h => by
    by_cases hc : c = 34
    · subst hc
      have := qd_esc s r (acc ++ [34]) (p + 2) h
      simp only [esc, if_true, List.cons_append, qd]
      rw [this]
      simp
      omega
    · have := qd_esc s r (acc ++ [c]) (p + 1) h
      simp only [esc, if_neg hc, List.cons_append]
      cases he : esc s ++ 34 :: r with
      | nil => simp at he
      | cons d u =>
        simp only [qd, if_neg hc]
        rw [← he, this]
        simp
        omega
theorem pl_plain : ∀ (s r acc : List UInt8) (p : Nat), s.any spec = false → EndC r → pl (s ++ r) acc p = .ok (acc ++ s, r, p + s.length)
  | [], r, acc, p, _, h => by
    rcases h with rfl | ⟨c, t, rfl, hc⟩
    · simp [pl]
    · rcases hc with rfl | rfl | rfl <;> simp [pl]
  | c :: s, r, acc, p, hs, h => by
    simp only [List.any_cons, Bool.or_eq_false_iff] at hs
    have h1 : c ≠ 44 ∧ c ≠ 34 ∧ c ≠ 13 ∧ c ≠ 10 := by simpa [spec, not_or, and_assoc] using hs.1
    have := pl_plain s r (acc ++ [c]) (p + 1) hs.2 h
    simp only [List.cons_append, pl, h1.1, h1.2.1, h1.2.2.1, h1.2.2.2, or_self, if_false]
    rw [this]
    simp
    omega
theorem cell_wr (s r : List UInt8) (p : Nat) (h : EndC r) : cellL (wr s ++ r) p = .ok (s, r, p + (wr s).length) := by
  unfold wr
  by_cases hs : s.any spec = true
  · rw [if_pos hs]
    have := qd_esc s r [] (p + 1) h
    simp only [List.cons_append, List.append_assoc, List.nil_append, cellL]
    rw [this]
    simp
    omega
  · have hs' : s.any spec = false := by simpa using hs
    rw [if_neg hs]
    have := pl_plain s r [] p hs' h
    unfold cellL
    split
    · rename_i t e
      exfalso
      cases s with
      | nil =>
        rcases h with rfl | ⟨c, t', rfl, hc⟩
        · simp at e
        · simp only [List.nil_append, List.cons.injEq] at e
          rcases hc with rfl | rfl | rfl <;> simp at e
      | cons c s =>
        simp only [List.cons_append, List.cons.injEq] at e
        rw [e.1] at hs'
        simp [spec] at hs'
    · simpa using this
theorem row_wr : ∀ (row : Row) (f : Nat) (rest : List UInt8) (p : Nat) (acc : Row), row ≠ [] → row.length ≤ f → rowL f (rowT row ++ 13 :: 10 :: rest) p acc = .ok (acc ++ row, rest, p + (rowT row).length + 2)
  | [], f, rest, p, acc, h, _ => absurd rfl h
  | [s], f, rest, p, acc, _, hf => by
    obtain ⟨g, rfl⟩ : ∃ g, f = g + 1 := ⟨f - 1, by simp at hf; omega⟩
    rw [rowT, rowL, cell_wr s (13 :: 10 :: rest) p (Or.inr ⟨13, _, rfl, by simp⟩)]
    simp
  | s :: t :: r, f, rest, p, acc, _, hf => by
    obtain ⟨g, rfl⟩ : ∃ g, f = g + 1 := ⟨f - 1, by simp at hf; omega⟩
    have ih := row_wr (t :: r) g rest (p + (wr s).length + 1) (acc ++ [s]) (by simp) (by simp at hf ⊢; omega)
    have e : rowT (s :: t :: r) ++ 13 :: 10 :: rest = wr s ++ 44 :: (rowT (t :: r) ++ 13 :: 10 :: rest) := by simp [rowT]
    rw [e, rowL, cell_wr s _ p (Or.inr ⟨44, _, rfl, by simp⟩)]
    simp only [if_true]
    rw [ih]
    simp [rowT]
    omega
theorem rowT_len : ∀ (row : Row), row ≠ [] → row.length ≤ (rowT row).length + 1
  | [], h => absurd rfl h
  | [s], _ => by simp
  | s :: t :: r, _ => by
    have := rowT_len (t :: r) (by simp)
    simp [rowT] at this ⊢
    omega
/-- Rows that are written are read back; what stands behind them is read on. -/
theorem spl_join : ∀ (rows : List Row) (f : Nat) (rest : List UInt8) (p : Nat) (acc : List Row), (∀ row ∈ rows, row ≠ []) → (joinT rows ++ rest).length < f →
    ∃ g q, rest.length < g ∧ splL f (joinT rows ++ rest) p acc = splL g rest q (acc ++ rows)
  | [], f, rest, p, acc, _, hf => ⟨f, p, by simpa [joinT] using hf, by simp [joinT]⟩
  | row :: rows, f, rest, p, acc, hr, hf => by
    obtain ⟨g, rfl⟩ : ∃ g, f = g + 1 := ⟨f - 1, by omega⟩
    have h0 := hr row (List.mem_cons_self ..)
    have hl := rowT_len row h0
    have e : joinT (row :: rows) ++ rest = rowT row ++ 13 :: 10 :: (joinT rows ++ rest) := by simp [joinT]
    rw [e] at hf ⊢
    obtain ⟨g', q, h1, h2⟩ := spl_join rows g rest (p + (rowT row).length + 2) (acc ++ [row]) (fun x hx => hr x (List.mem_cons_of_mem _ hx)) (by simp at hf ⊢; omega)
    refine ⟨g', q, h1, ?_⟩
    have hrow := row_wr row ((rowT row ++ 13 :: 10 :: (joinT rows ++ rest)).length + 2) (joinT rows ++ rest) p [] h0 (by simp; omega)
    generalize hz : rowT row ++ 13 :: 10 :: (joinT rows ++ rest) = z at hrow
    cases z with
    | nil => simp at hz
    | cons c t =>
      rw [show splL (g + 1) (c :: t) p acc = (match rowL ((c :: t).length + 2) (c :: t) p [] with | .error (q, e) => ([], q, e) | .ok (row, r, q) => splL g r q (acc ++ [row])) from rfl, hrow]
      simp only [List.nil_append]
      rw [h2]
      simp
end Go.Proofs.YthmcapdakplhdaaDoor.CsvP

/- The rows of a csv text, in plain words: the program's reader by cells, the document's by states, and that both say the same. -/
namespace Go.Proofs.YthmcapdakplhdaaDoor.CsvP
/-- Rows, or the error and its place. -/
abbrev Res := List (List (List UInt8)) × Nat × Int
abbrev Row := List (List UInt8)
/-- A quoted cell from behind its quote on. -/
def qd : List UInt8 → List UInt8 → Nat → Option (List UInt8 × List UInt8 × Nat)
  | [], _, _ => none
  | [c], acc, p => if c = 34 then some (acc, [], p + 1) else none
  | c :: d :: t, acc, p => if c = 34 then (if d = 34 then qd t (acc ++ [34]) (p + 2) else some (acc, d :: t, p + 1)) else qd (d :: t) (acc ++ [c]) (p + 1)
/-- A plain cell: its bytes, the rest, the place; or the place of a quote. -/
def pl : List UInt8 → List UInt8 → Nat → Except Nat (List UInt8 × List UInt8 × Nat)
  | [], acc, p => .ok (acc, [], p)
  | c :: t, acc, p => if c = 44 ∨ c = 13 ∨ c = 10 then .ok (acc, c :: t, p) else if c = 34 then .error p else pl t (acc ++ [c]) (p + 1)
def cellL (rest : List UInt8) (p : Nat) : Except Nat (List UInt8 × List UInt8 × Nat) :=
  match rest with
  | 34 :: t => (match qd t [] (p + 1) with | none => .error p | some x => .ok x)
  | _ => pl rest [] p
/-- The program's row, from a cell's begin on. -/
def rowL : Nat → List UInt8 → Nat → Row → Except (Nat × Int) (Row × List UInt8 × Nat)
  | 0, _, _, _ => .error (0, 0)
  | f + 1, rest, p, row =>
    match cellL rest p with
    | .error q => .error (q, 40)
    | .ok (s, [], q) => .ok (row ++ [s], [], q)
    | .ok (s, c :: t, q) =>
      if c = 44 then rowL f t (q + 1) (row ++ [s])
      else if c = 10 then .ok (row ++ [s], t, q + 1)
      else if c = 13 then (match t with | 10 :: t' => .ok (row ++ [s], t', q + 2) | _ => .error (q, 41))
      else .error (q, 40)
def splL : Nat → List UInt8 → Nat → List Row → Res
  | 0, _, _, _ => ([], 0, 0)
  | f + 1, rest, p, rows =>
    match rest with
    | [] => (rows, 0, 0)
    | _ => (match rowL (rest.length + 2) rest p [] with | .error (q, e) => ([], q, e) | .ok (row, r, q) => splL f r q (rows ++ [row]))
/-- The document's reader, byte by byte: states 0 at a cell's begin, 1 in a plain cell, 2 in a quoted one, 3 behind a quote in a quoted one. -/
def refL : List UInt8 → Nat → Nat → List Row → Row → List UInt8 → Nat → Res
  | [], _, st, rows, row, cell, op => if st = 2 then ([], op, 40) else if st = 0 then (rows, 0, 0) else (rows ++ [row ++ [cell]], 0, 0)
  | c :: t, p, st, rows, row, cell, op =>
    if st = 2 then (if c = 34 then refL t (p + 1) 3 rows row cell op else refL t (p + 1) 2 rows row (cell ++ [c]) op)
    else if c = 44 then (if t = [] then refL t (p + 1) 0 (rows ++ [row ++ [cell] ++ [[]]]) [] [] op else refL t (p + 1) 0 rows (row ++ [cell]) [] op)
    else if c = 10 then refL t (p + 1) 0 (rows ++ [row ++ [cell]]) [] [] op
    else if c = 13 then (match t with | 10 :: _ => refL t (p + 1) st rows row cell op | _ => ([], p, 41))
    else if c = 34 ∧ st = 0 then refL t (p + 1) 2 rows row cell p
    else if c = 34 ∧ st = 3 then refL t (p + 1) 2 rows row (cell ++ [34]) op
    else if c = 34 ∨ st = 3 then ([], p, 40)
    else refL t (p + 1) 1 rows row (cell ++ [c]) op
/-- What comes behind a cell. -/
def after (s r : List UInt8) (q : Nat) (rows : List Row) (row : Row) (op : Nat) : Res :=
  match r with
  | [] => (rows ++ [row ++ [s]], 0, 0)
  | c :: t =>
    if c = 44 then (if t = [] then (rows ++ [row ++ [s] ++ [[]]], 0, 0) else refL t (q + 1) 0 rows (row ++ [s]) [] op)
    else if c = 10 then refL t (q + 1) 0 (rows ++ [row ++ [s]]) [] [] op
    else if c = 13 then (match t with | 10 :: t' => refL t' (q + 2) 0 (rows ++ [row ++ [s]]) [] [] op | _ => ([], q, 41))
    else ([], q, 40)
theorem ref_plain : ∀ (rest acc : List UInt8) (p st : Nat) (rows : List Row) (row : Row) (op : Nat), (st = 1 ∨ st = 0 ∧ (∃ c t, rest = c :: t ∧ c ≠ 34)) →
    refL rest p st rows row acc op = (match pl rest acc p with | .error q => ([], q, 40) | .ok (s, r, q) => after s r q rows row op)
  | [], acc, p, st, rows, row, op, h => by
    rcases h with rfl | ⟨_, c, t, h, _⟩
    · simp [refL, pl, after]
    · cases h
  | c :: t, acc, p, st, rows, row, op, h => by
    have hst : st ≠ 2 ∧ st ≠ 3 := by rcases h with rfl | ⟨rfl, _⟩ <;> decide
    have h34 : st = 0 → c ≠ 34 := by
      intro h0
      rcases h with h1 | ⟨_, d, u, e, hd⟩
      · omega
      · obtain ⟨rfl, _⟩ := List.cons.inj e; exact hd
    by_cases c1 : c = 44
    · subst c1
      by_cases ht : t = []
      · subst ht; simp [refL, pl, after, hst.1]
      · simp [refL, pl, after, hst.1, ht]
    by_cases c2 : c = 10
    · subst c2; simp [refL, pl, after, hst.1]
    by_cases c3 : c = 13
    · subst c3
      match t with
      | [] => simp [refL, pl, after, hst.1]
      | d :: u =>
        by_cases hd : d = 10
        · subst hd; simp [refL, pl, after, hst.1]
        · simp [refL, pl, after, hst.1, hd]
    by_cases c4 : c = 34
    · subst c4
      have : st ≠ 0 := fun e => h34 e rfl
      simp [refL, pl, hst.1, hst.2, this]
    · have ih := ref_plain t (acc ++ [c]) (p + 1) 1 rows row op (Or.inl rfl)
      simp only [refL, pl, hst.1, hst.2, c1, c2, c3, c4, if_false, false_and, or_self, false_or]
      exact ih
theorem ref_quoted : ∀ (n : Nat) (rest acc : List UInt8) (p : Nat) (rows : List Row) (row : Row) (op : Nat), rest.length = n →
    refL rest p 2 rows row acc op = (match qd rest acc p with | none => ([], op, 40) | some (s, r, q) => after s r q rows row op) := by
  intro n
  induction n using Nat.strongRecOn with
  | _ n ih =>
    intro rest acc p rows row op hn
    match rest, hn with
    | [], _ => simp [refL, qd]
    | [c], _ =>
      by_cases h : c = 34
      · subst h; simp [refL, qd, after]
      · simp [refL, qd, h]
    | c :: d :: t, hn =>
      by_cases h : c = 34
      · subst h
        by_cases hd : d = 34
        · subst hd
          have := ih t.length (by simp at hn; omega) t (acc ++ [34]) (p + 2) rows row op rfl
          simp only [qd]
          simpa [refL] using this
        · by_cases d1 : d = 44
          · subst d1
            by_cases ht : t = []
            · subst ht; simp [refL, qd, after]
            · simp [refL, qd, after, ht]
          by_cases d2 : d = 10
          · subst d2; simp [refL, qd, after]
          by_cases d3 : d = 13
          · subst d3
            match t with
            | [] => simp [refL, qd, after]
            | e :: u =>
              by_cases he : e = 10
              · subst he; simp [refL, qd, after]
              · simp [refL, qd, after, he]
          · simp [refL, qd, after, hd, d1, d2, d3]
      · have := ih (d :: t).length (by simp at hn ⊢; omega) (d :: t) (acc ++ [c]) (p + 1) rows row op rfl
        simp only [qd, if_neg h]
        rw [← this]
        simp [refL, h]
theorem ref_op : ∀ (n : Nat) (rest cell : List UInt8) (p st : Nat) (rows : List Row) (row : Row) (op op' : Nat), rest.length = n → (st = 0 ∨ st = 1) → refL rest p st rows row cell op = refL rest p st rows row cell op' := by
  intro n
  induction n with
  | zero =>
    intro rest cell p st rows row op op' hn hst
    obtain rfl : rest = [] := List.eq_nil_of_length_eq_zero hn
    rcases hst with rfl | rfl <;> simp [refL]
  | succ n ih =>
    intro rest cell p st rows row op op' hn hst
    match rest, hn with
    | c :: t, hn =>
      have hl : t.length = n := by simpa using hn
      have h0 : ∀ rows row cell, refL t (p + 1) 0 rows row cell op = refL t (p + 1) 0 rows row cell op' := fun rows row cell => ih t cell (p + 1) 0 rows row op op' hl (Or.inl rfl)
      have h1 : ∀ rows row cell, refL t (p + 1) 1 rows row cell op = refL t (p + 1) 1 rows row cell op' := fun rows row cell => ih t cell (p + 1) 1 rows row op op' hl (Or.inr rfl)
      have hs : refL t (p + 1) st rows row cell op = refL t (p + 1) st rows row cell op' := by rcases hst with rfl | rfl; (exact h0 _ _ _); (exact h1 _ _ _)
      rcases hst with rfl | rfl
      · simp only [refL, h0, h1]
        simp
      · simp only [refL, h0, h1]
        simp
theorem qd_len : ∀ (n : Nat) (rest acc : List UInt8) (p : Nat) (x : List UInt8 × List UInt8 × Nat), rest.length = n → qd rest acc p = some x → x.2.1.length ≤ rest.length ∧ x.2.2 + x.2.1.length = p + rest.length := by
  intro n
  induction n using Nat.strongRecOn with
  | _ n ih =>
    intro rest acc p x hn h
    match rest, hn with
    | [], _ => simp [qd] at h
    | [c], _ =>
      by_cases hc : c = 34
      · simp [qd, hc] at h; subst h; simp
      · simp [qd, hc] at h
    | c :: d :: t, hn =>
      by_cases hc : c = 34
      · by_cases hd : d = 34
        · simp only [qd, if_pos hc, if_pos hd] at h
          have := ih t.length (by simp at hn; omega) t _ _ x rfl h
          simp; omega
        · simp only [qd, if_pos hc, if_neg hd, Option.some.injEq] at h
          subst h; simp; omega
      · simp only [qd, if_neg hc] at h
        have := ih (d :: t).length (by simp at hn ⊢; omega) (d :: t) _ _ x rfl h
        simp at this ⊢; omega
theorem pl_len : ∀ (rest acc : List UInt8) (p : Nat) (x : List UInt8 × List UInt8 × Nat), pl rest acc p = .ok x → x.2.1.length ≤ rest.length ∧ x.2.2 + x.2.1.length = p + rest.length
  | [], acc, p, x, h => by simp [pl] at h; subst h; simp
  | c :: t, acc, p, x, h => by
    by_cases h1 : c = 44 ∨ c = 13 ∨ c = 10
    · simp only [pl, if_pos h1, Except.ok.injEq] at h; subst h; simp
    · by_cases h2 : c = 34
      · simp [pl, h2] at h
      · simp only [pl, if_neg h1, if_neg h2] at h
        have := pl_len t _ _ x h
        simp; omega
theorem cell_len (rest : List UInt8) (p : Nat) (x : List UInt8 × List UInt8 × Nat) (h : cellL rest p = .ok x) : x.2.1.length ≤ rest.length ∧ x.2.2 + x.2.1.length = p + rest.length := by
  unfold cellL at h
  split at h
  · rename_i t
    cases hq : qd t [] (p + 1) with
    | none => rw [hq] at h; simp at h
    | some y =>
      rw [hq] at h
      simp only [Except.ok.injEq] at h
      subst h
      have := qd_len _ t [] (p + 1) y rfl hq
      simp; omega
  · exact pl_len _ _ _ _ h
theorem ref_cell (rest : List UInt8) (p : Nat) (rows : List Row) (row : Row) (op : Nat) (h : rest ≠ []) :
    refL rest p 0 rows row [] op = (match cellL rest p with | .error q => ([], q, 40) | .ok (s, r, q) => after s r q rows row p) := by
  match rest, h with
  | c :: t, _ =>
    rw [ref_op _ (c :: t) [] p 0 rows row op p rfl (Or.inl rfl)]
    by_cases hc : c = 34
    · subst hc
      have e : refL (34 :: t) p 0 rows row [] p = refL t (p + 1) 2 rows row [] p := by simp [refL]
      rw [e, ref_quoted _ t [] (p + 1) rows row p rfl]
      simp only [cellL]
      cases qd t [] (p + 1) <;> rfl
    · rw [ref_plain (c :: t) [] p 0 rows row p (Or.inr ⟨rfl, c, t, rfl, hc⟩)]
      have e : cellL (c :: t) p = pl (c :: t) [] p := by
        unfold cellL
        split
        · rename_i e; exact absurd (List.cons.inj e).1 hc
        · rfl
      rw [e]
theorem row_ref : ∀ (f : Nat) (rest : List UInt8) (p : Nat) (row : Row) (rows : List Row) (op : Nat), rest.length + 1 < f → rest ≠ [] →
    refL rest p 0 rows row [] op = (match rowL f rest p row with | .error (q, e) => ([], q, e) | .ok (row', r, q) => refL r q 0 (rows ++ [row']) [] [] 0) := by
  intro f
  induction f with
  | zero => intro rest p row rows op h; omega
  | succ f ih =>
    intro rest p row rows op hf hr
    rw [ref_cell rest p rows row op hr, rowL]
    cases hc : cellL rest p with
    | error q => rfl
    | ok x =>
      obtain ⟨s, r, q⟩ := x
      have hl := cell_len rest p (s, r, q) hc
      simp only at hl
      match r with
      | [] => simp [after, refL]
      | c :: t =>
        simp only [List.length_cons] at hl
        by_cases c1 : c = 44
        · subst c1
          by_cases ht : t = []
          · subst ht
            simp only [after, if_true]
            match f with
            | 0 => simp at hf
            | g + 1 => simp [rowL, cellL, pl, refL]
          · have := ih t (q + 1) (row ++ [s]) rows p (by omega) ht
            simp only [after, if_true, if_neg ht]
            exact this
        · by_cases c2 : c = 10
          · subst c2
            simp only [after, if_true, if_neg c1]
            exact ref_op _ t [] (q + 1) 0 _ [] p 0 rfl (Or.inl rfl)
          · by_cases c3 : c = 13
            · subst c3
              match t with
              | [] => simp [after]
              | d :: u =>
                by_cases hd : d = 10
                · subst hd
                  simp only [after]
                  simp
                  exact ref_op _ u [] (q + 2) 0 _ [] p 0 rfl (Or.inl rfl)
                · simp [after, hd]
            · simp only [after, if_neg c1, if_neg c2, if_neg c3]
theorem row_len : ∀ (f : Nat) (rest : List UInt8) (p : Nat) (row row' : Row) (r : List UInt8) (q : Nat), rowL f rest p row = .ok (row', r, q) → r.length ≤ rest.length ∧ (rest ≠ [] → r.length < rest.length) ∧ q + r.length = p + rest.length := by
  intro f
  induction f with
  | zero => intro rest p row row' r q h; simp [rowL] at h
  | succ f ih =>
    intro rest p row row' r q h
    rw [rowL] at h
    cases hc : cellL rest p with
    | error z => rw [hc] at h; simp at h
    | ok x =>
      obtain ⟨s, r1, q1⟩ := x
      have hl := cell_len rest p (s, r1, q1) hc
      simp only at hl
      rw [hc] at h
      match r1 with
      | [] =>
        simp only [Except.ok.injEq, Prod.mk.injEq] at h
        obtain ⟨_, rfl, rfl⟩ := h
        refine ⟨by simp, fun hr => ?_, by simpa using hl.2⟩
        cases rest with
        | nil => exact absurd rfl hr
        | cons a b => simp
      | c :: t =>
        simp only [List.length_cons] at hl
        simp only at h
        by_cases c1 : c = 44
        · rw [if_pos c1] at h
          have := ih t (q1 + 1) (row ++ [s]) row' r q h
          exact ⟨by omega, fun _ => by omega, by omega⟩
        · rw [if_neg c1] at h
          by_cases c2 : c = 10
          · rw [if_pos c2] at h
            simp only [Except.ok.injEq, Prod.mk.injEq] at h
            obtain ⟨_, rfl, rfl⟩ := h
            exact ⟨by omega, fun _ => by omega, by omega⟩
          · rw [if_neg c2] at h
            by_cases c3 : c = 13
            · rw [if_pos c3] at h
              match t, h with
              | [], h => simp at h
              | d :: u, h =>
                by_cases hd : d = 10
                · subst hd
                  simp only [Except.ok.injEq, Prod.mk.injEq] at h
                  obtain ⟨_, rfl, rfl⟩ := h
                  simp only [List.length_cons] at hl
                  exact ⟨by omega, fun _ => by omega, by omega⟩
                · simp [hd] at h
            · rw [if_neg c3] at h
              simp at h
/-- The program's rows are the document's. -/
theorem spl_ref : ∀ (f : Nat) (rest : List UInt8) (p : Nat) (rows : List Row) (op : Nat), rest.length < f → splL f rest p rows = refL rest p 0 rows [] [] op := by
  intro f
  induction f with
  | zero => intro rest p rows op h; omega
  | succ f ih =>
    intro rest p rows op hf
    match rest with
    | [] => simp [splL, refL]
    | c :: t =>
      rw [show splL (f + 1) (c :: t) p rows = (match rowL ((c :: t).length + 2) (c :: t) p [] with | .error (q, e) => ([], q, e) | .ok (row, r, q) => splL f r q (rows ++ [row])) from rfl, row_ref ((c :: t).length + 2) (c :: t) p [] rows op (by omega) (by simp)]
      cases hr : rowL ((c :: t).length + 2) (c :: t) p [] with
      | error z => obtain ⟨q, e⟩ := z; rfl
      | ok x =>
        obtain ⟨row', r, q⟩ := x
        have hl := row_len _ _ _ _ _ _ _ hr
        have := hl.2.1 (by simp)
        simp only
        exact ih r q (rows ++ [row']) 0 (by omega)
end Go.Proofs.YthmcapdakplhdaaDoor.CsvP

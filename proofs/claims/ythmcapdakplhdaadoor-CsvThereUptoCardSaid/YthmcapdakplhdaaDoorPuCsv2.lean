import Derived.Test.YthmcapdakplhdaaDoorPuCsv
import Derived.Test.YthmcapdakplhdaaDoorCsvS
/- What csv.Join writes is what csv.Split reads. -/
namespace Go.Proofs.YthmcapdakplhdaaDoor.PuCsv
open Go Go.RowKit Go.Proofs.YthmcapdakplhdaaDoor.Pr Go.Proofs.YthmcapdakplhdaaDoorW.PrintWords Go.Proofs.YthmcapdakplhdaaDoorW.PrintLast Go.Proofs.YthmcapdakplhdaaDoorW.PrintMore
set_option linter.unusedVariables false
theorem toB_list (l : List UInt8) : (toB l).data.toList = l := rfl
theorem toB_size (l : List UInt8) : (toB l).size = l.length := by
  show l.toArray.size = _
  rw [List.size_toArray]
theorem cellsJ_none_or : ∀ (row : CsvP.Row) (first : Bool) (acc : List UInt8), row ≠ [] → cellsJ (rowB row) first acc = none ∨ cellsJ (rowB row) first acc = some ((if first = true then acc else acc ++ [44]) ++ CsvP.rowT row)
  | [], _, _, h => absurd rfl h
  | [s], first, acc, _ => by
    show cellsJ [toB s] first acc = none ∨ cellsJ [toB s] first acc = _
    rw [cellsJ, cellsJ, toB_list]
    show _ ∨ _ = some (_ ++ CsvP.wr s)
    generalize (if first = true then acc else acc ++ [44]) = b
    split
    · exact .inl rfl
    · split
      · exact .inl rfl
      · exact .inr rfl
  | s :: t :: r, first, acc, _ => by
    have ih := cellsJ_none_or (t :: r) false ((if first = true then acc else acc ++ [44]) ++ CsvP.wr s) (by simp)
    have e : rowB (s :: t :: r) = toB s :: rowB (t :: r) := rfl
    rw [e, cellsJ, toB_list]
    generalize (if first = true then acc else acc ++ [44]) = b at *
    split
    · exact .inl rfl
    · split
      · exact .inl rfl
      · rcases ih with h | h
        · exact .inl h
        · refine .inr (h.trans ?_)
          rw [if_neg (by decide), CsvP.rowT]
          simp
theorem rowsJ_ok : ∀ (rows : List CsvP.Row) (acc : List UInt8), (∀ r ∈ rows, r ≠ []) → (rowsJ (rows.map rowB) acc = (toB (acc ++ CsvP.joinT rows), 0) ∧ (acc ++ CsvP.joinT rows).length ≤ 65536) ∨ rowsJ (rows.map rowB) acc = (⟨#[]⟩, 2)
  | [], acc, _ => by
    show (rowsJ [] acc = _ ∧ _) ∨ rowsJ [] acc = _
    rw [rowsJ, CsvP.joinT, List.append_nil]
    split
    · exact .inr rfl
    · exact .inl ⟨rfl, by omega⟩
  | row :: rows, acc, h => by
    show (rowsJ (rowB row :: rows.map rowB) acc = _ ∧ _) ∨ rowsJ (rowB row :: rows.map rowB) acc = _
    rw [rowsJ_cons]
    rcases cellsJ_none_or row true acc (h row List.mem_cons_self) with h1 | h1
    · rw [h1]; exact .inr rfl
    · rw [h1]
      have ih := rowsJ_ok rows (acc ++ CsvP.rowT row ++ [13, 10]) (fun r hr => h r (List.mem_cons_of_mem _ hr))
      have e : acc ++ CsvP.rowT row ++ [13, 10] ++ CsvP.joinT rows = acc ++ CsvP.joinT (row :: rows) := by rw [CsvP.joinT]; simp
      rw [e] at ih
      exact ih
theorem joinB_ok (rows : List CsvP.Row) (h : ∀ r ∈ rows, r ≠ []) : (joinB (rows.map rowB) = (toB (CsvP.joinT rows), 0) ∧ (CsvP.joinT rows).length ≤ 65536) ∨ joinB (rows.map rowB) = (⟨#[]⟩, 2) := by
  have hn : (rows.map rowB).any (·.isEmpty) = false := by
    rw [List.any_eq_false]
    intro x hx
    obtain ⟨r, hr, rfl⟩ := List.mem_map.1 hx
    have := h r hr
    cases r with
    | nil => exact absurd rfl this
    | cons a t => simp [rowB]
  unfold joinB
  rw [hn, if_neg (by decide)]
  exact rowsJ_ok rows [] h
/-- What is written, and something behind it, is read as the rows and what is behind them. -/
theorem split_join (rows : List CsvP.Row) (more : List UInt8) (h : ∀ r ∈ rows, r ≠ []) :
    ∃ g q, more.length < g ∧ CsvP.splL ((toB (CsvP.joinT rows ++ more)).size + 1) (toB (CsvP.joinT rows ++ more)).data.toList 0 [] = CsvP.splL g more q rows := by
  rw [toB_list, toB_size]
  obtain ⟨g, q, h1, h2⟩ := CsvP.spl_join rows ((CsvP.joinT rows ++ more).length + 1) more 0 [] h (Nat.lt_succ_self _)
  exact ⟨g, q, h1, by rw [h2, List.nil_append]⟩
theorem splB_join (rows : List CsvP.Row) (h : ∀ r ∈ rows, r ≠ []) (hl : (CsvP.joinT rows).length ≤ 65536) : splB (toB (CsvP.joinT rows)) = (rows.map rowB, 0, 0) := by
  obtain ⟨g, q, h1, h2⟩ := split_join rows [] h
  rw [List.append_nil] at h2
  obtain ⟨g', rfl⟩ : ∃ g', g = g' + 1 := ⟨g - 1, by simp at h1; omega⟩
  unfold splB
  rw [if_neg (by rw [toB_size]; omega), h2]
  rfl
end Go.Proofs.YthmcapdakplhdaaDoor.PuCsv

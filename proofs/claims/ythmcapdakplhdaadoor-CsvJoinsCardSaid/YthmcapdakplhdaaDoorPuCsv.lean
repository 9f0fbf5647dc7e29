import Derived.Test.YthmcapdakplhdaaDoorPrx3
import Derived.Test.YthmcapdakplhdaaDoorCsvJ
/- What the statements about csv compute, in plain words. -/
namespace Go.Proofs.YthmcapdakplhdaaDoor.PuCsv
open Go Go.RowKit Go.Proofs.YthmcapdakplhdaaDoor.Pr Go.Proofs.YthmcapdakplhdaaDoorW.PrintWords Go.Proofs.YthmcapdakplhdaaDoorW.PrintLast Go.Proofs.YthmcapdakplhdaaDoorW.PrintMore
set_option linter.unusedVariables false
theorem w64 (i : Nat) (h : i ≤ 4611686018427387904) : wrap64 ((i : Int) + 1) = ((i + 1 : Nat) : Int) := by
  unfold wrap64
  omega
theorem row_l0 (a : List ByteArray) (hb : a.length ≤ 4611686018427387904) : ∀ n i, i + n = a.length → Ev (fun k => refrainlaw4_sameRow.l0 k a a (i : Int)) true
  | 0, i, h => by
    refine Ev.step (f := fun _ => some true) (fun k => ?_) (Ev.now _)
    simp only [refrainlaw4_sameRow.l0]
    rw [if_neg (by omega)]
  | n + 1, i, h => by
    refine Ev.step (f := fun k => refrainlaw4_sameRow.l0 k a a ((i + 1 : Nat) : Int)) (fun k => ?_) (row_l0 a hb n (i + 1) (by omega))
    simp only [refrainlaw4_sameRow.l0]
    rw [if_pos (by omega), if_pos (by omega), if_pos (by omega), if_pos trivial, w64 i (by omega)]
theorem row_self (a : List ByteArray) (hb : a.length ≤ 4611686018427387904) : Ev (fun k => refrainlaw4_sameRow.f k a a) true := by
  refine Ev.congr (fun k => ?_) (row_l0 a hb a.length 0 (by omega))
  unfold refrainlaw4_sameRow.f
  rw [if_pos rfl]
  rfl
theorem same_l0 (a : List (List ByteArray)) (hb : a.length ≤ 4611686018427387904) (hr : ∀ r ∈ a, r.length ≤ 4611686018427387904) : ∀ n i, i + n = a.length → Ev (fun k => refrainlaw4_same.l0 k a a (i : Int)) true
  | 0, i, h => by
    refine Ev.step (f := fun _ => some true) (fun k => ?_) (Ev.now _)
    simp only [refrainlaw4_same.l0]
    rw [if_neg (by omega)]
  | n + 1, i, h => by
    refine Ev.step (f := fun k => (refrainlaw4_sameRow.f k (rd_L1 a (i : Int)) (rd_L1 a (i : Int))).bind fun t => if t = true then refrainlaw4_same.l0 k a a ((i + 1 : Nat) : Int) else some false) (fun k => ?_) ?_
    · simp only [refrainlaw4_same.l0]
      rw [if_pos (by omega), if_pos (by omega), if_pos (by omega), w64 i (by omega)]
    · refine Ev.bind (row_self _ (hr _ (mem_rd (by omega)))) ?_
      simp only [if_true]
      exact same_l0 a hb hr n (i + 1) (by omega)
theorem same_self (a : List (List ByteArray)) (hb : a.length ≤ 4611686018427387904) (hr : ∀ r ∈ a, r.length ≤ 4611686018427387904) : Ev (fun k => refrainlaw4_same.f k a a) true := by
  refine Ev.congr (fun k => ?_) (same_l0 a hb hr a.length 0 (by omega))
  unfold refrainlaw4_same.f
  rw [if_pos rfl]
  rfl
theorem row_cnt : ∀ (f : Nat) (rest : List UInt8) (p : Nat) (row row' : CsvP.Row) (r : List UInt8) (q : Nat), CsvP.rowL f rest p row = .ok (row', r, q) → row'.length ≤ row.length + f := by
  intro f
  induction f with
  | zero => intro rest p row row' r q h; simp [CsvP.rowL] at h
  | succ f ih =>
    intro rest p row row' r q h
    rw [CsvP.rowL] at h
    cases hc : CsvP.cellL rest p with
    | error z => rw [hc] at h; simp at h
    | ok x =>
      obtain ⟨s, r1, q1⟩ := x
      rw [hc] at h
      match r1 with
      | [] =>
        simp only [Except.ok.injEq, Prod.mk.injEq] at h
        obtain ⟨rfl, _, _⟩ := h
        rw [List.length_append, List.length_singleton]; omega
      | c :: t =>
        simp only at h
        by_cases c1 : c = 44
        · rw [if_pos c1] at h
          have := ih _ _ _ _ _ _ h
          rw [List.length_append, List.length_singleton] at this
          omega
        · rw [if_neg c1] at h
          by_cases c2 : c = 10
          · rw [if_pos c2] at h
            simp only [Except.ok.injEq, Prod.mk.injEq] at h
            obtain ⟨rfl, _, _⟩ := h
            rw [List.length_append, List.length_singleton]; omega
          · rw [if_neg c2] at h
            by_cases c3 : c = 13
            · rw [if_pos c3] at h
              match t, h with
              | [], h => simp at h
              | d :: u, h =>
                by_cases hd : d = 10
                · subst hd
                  simp only [Except.ok.injEq, Prod.mk.injEq] at h
                  obtain ⟨rfl, _, _⟩ := h
                  rw [List.length_append, List.length_singleton]; omega
                · simp [hd] at h
            · rw [if_neg c3] at h
              simp at h
theorem spl_bd (B : Nat) : ∀ (f : Nat) (rest : List UInt8) (p : Nat) (rows : List CsvP.Row), rest.length + 2 ≤ B → (∀ r ∈ rows, r.length ≤ B) → (∀ r ∈ (CsvP.splL f rest p rows).1, r.length ≤ B) ∧ (CsvP.splL f rest p rows).1.length ≤ rows.length + f := by
  intro f
  induction f with
  | zero => intro rest p rows _ _; exact ⟨fun r hr => by simp [CsvP.splL] at hr, by simp [CsvP.splL]⟩
  | succ f ih =>
    intro rest p rows hB hr
    by_cases hne : rest = []
    · subst hne
      exact ⟨hr, by show rows.length ≤ _; omega⟩
    · rw [spl_cons f rest p rows hne]
      rcases hrow : CsvP.rowL (rest.length + 2) rest p [] with ⟨q, er⟩ | ⟨row, r, q⟩
      · exact ⟨fun r hr => by simp at hr, by simp⟩
      · have h1 := row_cnt _ _ _ _ _ _ _ hrow
        have h2 := CsvP.row_len _ _ _ _ _ _ _ hrow
        have h3 := ih r q (rows ++ [row]) (by omega) (by
          intro x hx
          rcases List.mem_append.1 hx with h | h
          · exact hr x h
          · rw [List.mem_singleton.1 h]
            have : row.length ≤ 0 + (rest.length + 2) := h1
            omega)
        refine ⟨h3.1, ?_⟩
        have := h3.2
        rw [List.length_append, List.length_singleton] at this
        show (CsvP.splL f r q (rows ++ [row])).1.length ≤ _
        omega
theorem spl_small (s : ByteArray) (h : s.size ≤ 65536) : (∀ r ∈ (splB s).1, r.length ≤ 65538) ∧ (splB s).1.length ≤ 65537 := by
  have := spl_bd 65538 (s.size + 1) s.data.toList 0 [] (by rw [← Lib.size_eq]; omega) (by simp)
  unfold splB
  rw [if_neg (by omega)]
  refine ⟨fun r hr => ?_, ?_⟩
  · obtain ⟨x, hx, rfl⟩ := List.mem_map.1 hr
    rw [rowB_len]
    exact this.1 x hx
  · rw [List.length_map]
    have h2 := this.2
    simp only [List.length_nil] at h2
    omega
theorem spl_small2 (s : ByteArray) : (∀ r ∈ (splB s).1, r.length ≤ 65538) ∧ (splB s).1.length ≤ 65537 := by
  by_cases h : s.size ≤ 65536
  · exact spl_small s h
  · unfold splB
    rw [if_pos (by omega)]
    exact ⟨fun r hr => by simp at hr, by simp⟩
theorem begun_split : splB (⟨#[97, 44, 34, 98, 44, 99, 34, 13, 10]⟩ : ByteArray) = ([[⟨#[97]⟩, ⟨#[98, 44, 99]⟩]], 0, 0) := by kernel_rfl
theorem begun_join : joinB [[⟨#[97]⟩, ⟨#[98, 44, 99]⟩]] = (⟨#[97, 44, 34, 98, 44, 99, 34, 13, 10]⟩, 0) := by kernel_rfl
theorem begun_true : refrainlaw4_begun.f = some true := by
  unfold refrainlaw4_begun.f csv_Split.f csv_Join.f
  rw [begun_split, Option.bind_some]
  show (if (0 : Int) = 0 then _ else _) = _
  rw [if_pos rfl]
  show (if (0 : Int) = 0 then _ else _) = _
  rw [if_pos rfl]
  show (if (1 : Int) = 1 then _ else _) = _
  rw [if_pos rfl]
  show (if (0 : Int) < 1 then _ else _) = _
  rw [if_pos (by decide)]
  show (if (2 : Int) = 2 then _ else _) = _
  rw [if_pos rfl]
  show (if (1 : Int) < 2 then _ else _) = _
  rw [if_pos (by decide)]
  show (if (⟨#[98, 44, 99]⟩ : ByteArray).toList = [98, 44, 99] then _ else _) = _
  rw [if_pos (by rw [Lib.toList_data])]
  show (if 1 ≤ 140737488355328 ∧ (∀ r ∈ [[(⟨#[97]⟩ : ByteArray), ⟨#[98, 44, 99]⟩]], r.length ≤ 140737488355328) then some (joinB [[⟨#[97]⟩, ⟨#[98, 44, 99]⟩]]) else none).bind _ = _
  rw [if_pos ⟨by decide, by intro r hr; rw [List.mem_singleton.1 hr]; decide⟩, begun_join, Option.bind_some]
  show (if (0 : Int) = 0 then some ((⟨#[97, 44, 34, 98, 44, 99, 34, 13, 10]⟩ : ByteArray).toList == [97, 44, 34, 98, 44, 99, 34, 13, 10]) else _) = _
  rw [if_pos rfl, Lib.toList_data]
  rfl
end Go.Proofs.YthmcapdakplhdaaDoor.PuCsv

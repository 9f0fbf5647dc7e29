/-
CsvThere, in plain words, where the rows are of bounded bulk: rows with cells are written, if that is not too long, and read back as they were; a row without cells is refused.
-/
import Derived.Test.YthmcapdakplhdaaDoorOpnCsvThereU
import Derived.Test.YthmcapdakplhdaaDoorPuCsv2
namespace Go.Proofs.YthmcapdakplhdaaDoor.csvThere
open Go Go.RowKit Go.Proofs.YthmcapdakplhdaaDoor.Pr Go.Proofs.YthmcapdakplhdaaDoor.Opn Go.Proofs.YthmcapdakplhdaaDoor.PuCsv Go.Proofs.YthmcapdakplhdaaDoorW.PrintWords Go.Proofs.YthmcapdakplhdaaDoorW.PrintLast Go.Proofs.YthmcapdakplhdaaDoorW.PrintMore
set_option linter.unusedVariables false
/-- What the law reckons of a row, of rows. -/
def T (l : List ByteArray) : Nat := (l.map fun s : ByteArray => 2 * s.size + 4).sum
def TT (x : List (List ByteArray)) : Nat := (x.map T).sum
theorem T_cons (s : ByteArray) (l : List ByteArray) : T (s :: l) = 2 * s.size + 4 + T l := by simp [T]
theorem TT_cons (l : List ByteArray) (x : List (List ByteArray)) : TT (l :: x) = T l + TT x := by simp [TT]
theorem T_bulk (l : List ByteArray) : T l ≤ 4 * (l.map fun s : ByteArray => s.size + 1).sum := by
  induction l with
  | nil => simp [T]
  | cons s l ih => rw [T_cons, List.map_cons, List.sum_cons]; omega
theorem TT_bulk (x : List (List ByteArray)) : TT x ≤ 4 * (x.map fun l => (l.map fun s : ByteArray => s.size + 1).sum + 1).sum := by
  induction x with
  | nil => simp [TT]
  | cons l x ih => have := T_bulk l; rw [TT_cons, List.map_cons, List.sum_cons]; omega
theorem wr_len (s : List UInt8) : (CsvP.wr s).length ≤ 2 * s.length + 2 := by
  have := esc_len s
  unfold CsvP.wr
  split
  · simp only [List.length_cons, List.length_append, List.length_nil]; omega
  · omega
theorem cells_len : ∀ (l : List ByteArray) (first : Bool) (acc : List UInt8),
    (cellsJ l first acc = none → 65536 < acc.length + T l) ∧ ∀ a, cellsJ l first acc = some a → a.length + l.length + (if first = true ∧ l ≠ [] then 1 else 0) ≤ acc.length + T l
  | [], first, acc => ⟨fun h => by simp [cellsJ] at h, fun a h => by
      rw [cellsJ] at h
      obtain rfl := Option.some.inj h
      simp [T]⟩
  | s :: l, first, acc => by
    have hw := wr_len s.data.toList
    rw [← Lib.size_eq] at hw
    have hb : ((if first = true then acc else acc ++ [44]) ++ CsvP.wr s.data.toList).length + (if first = true then 1 else 0) ≤ acc.length + 2 * s.size + 3 := by
      rw [List.length_append]
      cases first
      · simp only [Bool.false_eq_true, if_false, List.length_append, List.length_singleton]; omega
      · simp only [if_true]; omega
    rw [cellsJ, T_cons]
    generalize (if first = true then acc else acc ++ [44]) ++ CsvP.wr s.data.toList = b at *
    obtain ⟨i1, i2⟩ := cells_len l false b
    refine ⟨fun h => ?_, fun a h => ?_⟩
    · split at h
      · omega
      · split at h
        · split at hb <;> omega
        · have := i1 h
          split at hb <;> omega
    · split at h
      · cases h
      · split at h
        · cases h
        · have := i2 a h
          simp only [Bool.false_eq_true, false_and, if_false] at this
          rw [List.length_cons]
          cases first
          · simp only [Bool.false_eq_true, false_and, if_false] at hb ⊢; omega
          · simp only [if_true] at hb
            rw [if_pos ⟨rfl, by simp⟩]
            omega
theorem rows_len : ∀ (x : List (List ByteArray)) (acc : List UInt8), (∀ r ∈ x, r ≠ []) → rowsJ x acc = (⟨#[]⟩, 2) → 65536 < acc.length + TT x
  | [], acc, _, h => by
    rw [rowsJ] at h
    split at h
    · simp only [TT, List.map_nil, List.sum_nil]; omega
    · have := (Prod.mk.inj h).2
      cases this
  | r :: x, acc, hr, h => by
    rw [rowsJ_cons] at h
    obtain ⟨c1, c2⟩ := cells_len r true acc
    rw [TT_cons]
    cases hc : cellsJ r true acc with
    | none => have := c1 hc; omega
    | some a =>
      rw [hc] at h
      have h2 := c2 a hc
      have hne := hr r List.mem_cons_self
      rw [if_pos ⟨rfl, hne⟩] at h2
      have h3 := rows_len x (a ++ [13, 10]) (fun q hq => hr q (List.mem_cons_of_mem _ hq)) h
      have h4 := List.length_pos_iff.2 hne
      rw [List.length_append] at h3
      simp only [List.length_cons, List.length_nil] at h3
      omega
/-- What is asked behind both loops. -/
def fin (x : List (List ByteArray)) (s : ByteArray) (e b : Int) (k : Nat) : Option Bool :=
  if e = 0 then ((csv_Split.f s).bind fun bt201 => (if bt201.2.2 = 0 then (if bt201.2.1 = 0 then (if (s.size : Int) ≤ 65536 then ((refrainlaw4_same.f k bt201.1 x).bind fun t206 => (some t206)) else (some false)) else (some false)) else (some false))) else (if e = 2 then (if s.toList = ([] : List UInt8) then (some (decide (b > 65536))) else (some false)) else (some false))
theorem len3 {b m q : Nat} (h : b + (2 * m + 4 + q) ≤ 1099511627776) : b + (2 * m + 4) + q ≤ 1099511627776 := by omega
theorem len4 (b m q : Nat) : b + (2 * m + 4 + q) = b + (2 * m + 4) + q := by omega
theorem len5 {b m q : Nat} (h : b + (2 * m + 4 + q) ≤ 1099511627776) : b + (2 * m + 4) ≤ 1099511627776 := by omega
theorem wr3 (b m : Nat) (h : b + (2 * m + 4) ≤ 1099511627776) : wrap64 (wrap64 ((b : Int) + wrap64 (2 * (m : Int))) + 4) = ((b + (2 * m + 4) : Nat) : Int) := by
  have e1 : wrap64 (2 * (m : Int)) = 2 * (m : Int) := IntWalk.wrap64_in _ ⟨by omega, by omega⟩
  have e2 : wrap64 ((b : Int) + 2 * (m : Int)) = (b : Int) + 2 * (m : Int) := IntWalk.wrap64_in _ ⟨by omega, by omega⟩
  have e3 : wrap64 ((b : Int) + 2 * (m : Int) + 4) = (b : Int) + 2 * (m : Int) + 4 := IntWalk.wrap64_in _ ⟨by omega, by omega⟩
  rw [e1, e2, e3]
  omega
theorem l1_ev (x : List (List ByteArray)) (s : ByteArray) (e : Int) (i : Nat) (hi : i < x.length) (hx : x.length ≤ 4611686018427387904) (hl : (rd_L1 x (i : Int)).length ≤ 4611686018427387904) : ∀ n j b, j + n = (rd_L1 x (i : Int)).length → b + T ((rd_L1 x (i : Int)).drop j) ≤ 1099511627776 →
    Ev (fun k => refrainlaw4_CsvThere.l0 k x s e ((b + T ((rd_L1 x (i : Int)).drop j) : Nat) : Int) ((i + 1 : Nat) : Int)) true → Ev (fun k => refrainlaw4_CsvThere.l1 k x s e (b : Int) (i : Int) (j : Int)) true
  | 0, j, b, h, hb, hr => by
    refine Ev.step (fun k => ?_) hr
    simp only [refrainlaw4_CsvThere.l1]
    rw [if_pos (by omega), if_pos (by omega), if_neg (by omega), w64 i (by omega), List.drop_eq_nil_of_le (by omega)]
    rfl
  | n + 1, j, b, h, hb, hr => by
    have hj : j < (rd_L1 x (i : Int)).length := by omega
    have hd := drop_rs hj
    rw [hd, T_cons] at hb hr
    obtain ⟨m, hm⟩ : ∃ m, (rdOf ByteArray.empty (rd_L1 x (i : Int)) (j : Int)).size = m := ⟨_, rfl⟩
    obtain ⟨q, hq⟩ : ∃ q, T ((rd_L1 x (i : Int)).drop (j + 1)) = q := ⟨_, rfl⟩
    rw [hm, hq] at hb hr
    have ih := l1_ev x s e i hi hx hl n (j + 1) (b + (2 * m + 4)) (by omega) (by rw [hq]; exact len3 hb) (by rw [hq, ← len4 b m q]; exact hr)
    refine Ev.step (fun k => ?_) ih
    simp only [refrainlaw4_CsvThere.l1]
    rw [if_pos (by omega), if_pos (by omega), if_pos (by omega), if_pos (by omega), hm, wr3 b m (len5 hb), w64 j (by omega)]
theorem l0_ev (x : List (List ByteArray)) (s : ByteArray) (e : Int) (hx : x.length ≤ 4611686018427387904) (hl : ∀ r ∈ x, r.length ≤ 4611686018427387904) : ∀ n i b, i + n = x.length → b + TT (x.drop i) ≤ 1099511627776 →
    ((∃ r ∈ x.drop i, r = []) → e = 41 ∧ s.toList = []) → ((∀ r ∈ x.drop i, r ≠ []) → Ev (fin x s e ((b + TT (x.drop i) : Nat) : Int)) true) → Ev (fun k => refrainlaw4_CsvThere.l0 k x s e (b : Int) (i : Int)) true
  | 0, i, b, h, hb, h1, h2 => by
    have hd : x.drop i = [] := List.drop_eq_nil_of_le (by omega)
    rw [hd] at h2
    refine Ev.step (fun k => ?_) (h2 (fun r hr => by simp at hr))
    simp only [refrainlaw4_CsvThere.l0]
    rw [if_neg (by omega)]
    rfl
  | n + 1, i, b, h, hb, h1, h2 => by
    have hi : i < x.length := by omega
    have hd := drop_rd hi
    rw [hd] at h1 h2 hb
    rw [TT_cons] at hb h2
    by_cases hz : (rd_L1 x (i : Int)).length = 0
    · obtain ⟨he, hs⟩ := h1 ⟨_, List.mem_cons_self, List.eq_nil_of_length_eq_zero hz⟩
      refine Ev.step (f := fun _ => some true) (fun k => ?_) (Ev.now _)
      simp only [refrainlaw4_CsvThere.l0]
      rw [if_pos (by omega), if_pos (by omega), if_pos (by omega), if_pos he, hs]
      rfl
    · have hne : rd_L1 x (i : Int) ≠ [] := fun e => hz (by rw [e]; rfl)
      refine Ev.step (f := fun k => refrainlaw4_CsvThere.l1 k x s e (b : Int) (i : Int) ((0 : Nat) : Int)) (fun k => ?_) ?_
      · simp only [refrainlaw4_CsvThere.l0]
        rw [if_pos (by omega), if_pos (by omega), if_neg (by omega)]
        rfl
      · refine l1_ev x s e i hi hx (hl _ (mem_rd hi)) (rd_L1 x (i : Int)).length 0 b (by omega) (by rw [List.drop_zero]; omega) ?_
        rw [List.drop_zero]
        refine l0_ev x s e hx hl n (i + 1) (b + T (rd_L1 x (i : Int))) (by omega) (by omega) (fun hq => ?_) (fun hq => ?_)
        · obtain ⟨r, hr, hr2⟩ := hq
          exact h1 ⟨r, List.mem_cons_of_mem _ hr, hr2⟩
        · rw [Nat.add_assoc]
          exact h2 (fun r hr => by
            rcases List.mem_cons.1 hr with h | h
            · rw [h]; exact hne
            · exact hq r h)
theorem back (x : List (List ByteArray)) : (x.map fun l => l.map fun s : ByteArray => s.data.toList).map rowB = x := by
  have e : ∀ s : ByteArray, toB s.data.toList = s := fun s => by
    show (⟨s.data.toList.toArray⟩ : ByteArray) = s
    rw [Array.toArray_toList]
  rw [List.map_map]
  refine (List.map_congr_left (fun l _ => ?_)).trans (List.map_id x)
  show (l.map fun s : ByteArray => s.data.toList).map toB = l
  rw [List.map_map]
  refine (List.map_congr_left (fun s _ => ?_)).trans (List.map_id l)
  exact e s
theorem pureG : PureG := by
  intro x hx hM
  have hxl : x.length ≤ 140737488355328 := by have := hx.2.1; omega
  have hrl : ∀ r ∈ x, r.length ≤ 140737488355328 := fun r hr => by have := (hx.2.2 r hr).2.1; omega
  have hTT : TT x ≤ 4194304 := by
    have := TT_bulk x
    unfold bulkM at hM
    omega
  have hj : csv_Join.f x = some (joinB x) := by
    unfold csv_Join.f
    rw [if_pos ⟨hxl, hrl⟩]
  have key : Ev (fun k => refrainlaw4_CsvThere.l0 k x (joinB x).1 (joinB x).2 ((0 : Nat) : Int) ((0 : Nat) : Int)) true := by
    refine l0_ev x _ _ (by omega) (fun r hr => by have := hrl r hr; omega) x.length 0 0 (by omega) (by rw [List.drop_zero]; omega) (fun hq => ?_) (fun hq => ?_)
    · rw [List.drop_zero] at hq
      obtain ⟨r, hr, rfl⟩ := hq
      have hany : x.any (·.isEmpty) = true := List.any_eq_true.2 ⟨[], hr, rfl⟩
      unfold joinB
      rw [if_pos hany]
      exact ⟨rfl, by rw [Lib.toList_data]⟩
    · rw [List.drop_zero] at hq ⊢
      have hb := back x
      generalize (x.map fun l => l.map fun s : ByteArray => s.data.toList) = rows at hb
      subst hb
      have hne : ∀ r ∈ rows, r ≠ [] := fun r hr e => hq (rowB r) (List.mem_map_of_mem hr) (by rw [e]; rfl)
      rcases joinB_ok rows hne with ⟨h1, h2⟩ | h1
      · refine Ev.congr (f := fun k => (refrainlaw4_same.f k (rows.map rowB) (rows.map rowB)).bind fun t206 => some t206) (fun k => ?_) ?_
        · unfold fin
          rw [h1, if_pos rfl]
          unfold csv_Split.f
          rw [splB_join rows hne h2, Option.bind_some]
          exact (if_pos rfl).trans ((if_pos rfl).trans (if_pos (by rw [toB_size]; omega)))
        · exact Ev.bind (same_self _ (by omega) (fun r hr => by have := hrl r hr; omega)) (Ev.now _)
      · have hlen : 65536 < TT (rows.map rowB) := by
          have hn : (rows.map rowB).any (·.isEmpty) = false := by
            rw [List.any_eq_false]
            intro r hr
            have := hq r hr
            cases r with
            | nil => exact absurd rfl this
            | cons a t => simp
          have h3 : rowsJ (rows.map rowB) [] = (⟨#[]⟩, 2) := by
            have := h1
            unfold joinB at this
            rwa [hn, if_neg (by decide)] at this
          have := rows_len _ [] hq h3
          simpa using this
        refine Ev.congr (f := fun _ => some true) (fun k => ?_) (Ev.now _)
        unfold fin
        rw [h1, if_neg (by decide), if_pos rfl, if_pos (by rw [Lib.toList_data]), decide_eq_true (by omega)]
  have h : Ev (fun k => refrainlaw4_CsvThere.f k x) true := by
    refine Ev.congr (fun k => ?_) key
    unfold refrainlaw4_CsvThere.f
    rw [begun_true, Option.bind_some, if_pos rfl, hj, Option.bind_some]
    rfl
  exact h.rounds
end Go.Proofs.YthmcapdakplhdaaDoor.csvThere

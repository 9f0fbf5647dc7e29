/-
CsvAgain, in plain words: what is read has a cell in every row, is written and read as the same; what is refused is refused at a place in the text; rows behind the rows of a text are rows more.
-/
import Derived.Test.YthmcapdakplhdaaDoorOpnCsvAgain
import Derived.Test.YthmcapdakplhdaaDoorPuCsv2
namespace Go.Proofs.YthmcapdakplhdaaDoor.csvAgain
open Go Go.RowKit Go.Proofs.YthmcapdakplhdaaDoor.Pr Go.Proofs.YthmcapdakplhdaaDoor.Opn Go.Proofs.YthmcapdakplhdaaDoor.PuCsv Go.Proofs.YthmcapdakplhdaaDoorW.PrintWords Go.Proofs.YthmcapdakplhdaaDoorW.PrintLast Go.Proofs.YthmcapdakplhdaaDoorW.PrintMore
set_option linter.unusedVariables false
theorem j2_true (x6 x15 x18 : List (List ByteArray)) : Ev (fun k => refrainlaw4_CsvAgain.j2 k x6 x15 x18 true) true := by
  refine Ev.step (f := fun _ => some true) (fun k => ?_) (Ev.now _)
  simp only [refrainlaw4_CsvAgain.j2]
  rw [if_pos trivial]
theorem j2_false (a b : List (List ByteArray)) (ha : a.length ≤ 65537) (hb : b.length ≤ 65537) (hra : ∀ r ∈ a, r.length ≤ 65538) (hrb : ∀ r ∈ b, r.length ≤ 65538) : Ev (fun k => refrainlaw4_CsvAgain.j2 k a (a ++ b) b false) true := by
  have hw : wrap64 ((a.length : Int) + (b.length : Int)) = ((a ++ b).length : Int) := by
    rw [List.length_append]
    unfold wrap64
    omega
  refine Ev.step (f := fun k => (refrainlaw4_same.f k a a).bind fun t236 => (if t236 = true then ((refrainlaw4_same.f k b b).bind fun t241 => (some t241)) else (some false))) (fun k => ?_) ?_
  · simp only [refrainlaw4_CsvAgain.j2]
    rw [if_neg (by decide), if_pos hw.symm, if_pos (by omega), if_pos (by rw [List.length_append]; omega), Int.toNat_natCast, List.take_left, List.drop_left]
  · refine Ev.bind (same_self a (by omega) (fun r hr => by have := hra r hr; omega)) ?_
    simp only [if_true]
    exact Ev.bind (same_self b (by omega) (fun r hr => by have := hrb r hr; omega)) (Ev.now _)
theorem j1_ok (rows : List CsvP.Row) (a1 : ByteArray) (ha1 : a1.size ≤ 140737488351232) (hne : ∀ r ∈ rows, r ≠ []) (hl : (CsvP.joinT rows).length ≤ 65536) (hb : (rows.map rowB).length ≤ 65537) (hr : ∀ r ∈ rows.map rowB, r.length ≤ 65538) :
    Ev (fun k => refrainlaw4_CsvAgain.j1 k a1 (rows.map rowB) (toB (CsvP.joinT rows)) false) true := by
  have hs : (toB (CsvP.joinT rows)).size ≤ 65536 := by rw [toB_size]; exact hl
  have hcat : toB (CsvP.joinT rows) ++ a1 = toB (CsvP.joinT rows ++ a1.data.toList) := by
    apply ByteArray.ext
    rw [ByteArray.data_append]
    apply Array.ext'
    simp [toB]
  have hBs := spl_small2 a1
  refine Ev.step (f := fun k => if (splB (toB (CsvP.joinT rows) ++ a1)).2.2 = 0 then refrainlaw4_CsvAgain.j2 k (rows.map rowB) (splB (toB (CsvP.joinT rows) ++ a1)).1 (splB a1).1 ((splB a1).2.2 != 0) else refrainlaw4_CsvAgain.j2 k (rows.map rowB) (splB (toB (CsvP.joinT rows) ++ a1)).1 (splB a1).1 true) (fun k => ?_) ?_
  · simp only [refrainlaw4_CsvAgain.j1]
    rw [if_neg (by decide), if_pos (by omega)]
    unfold csv_Split.f
    rw [Option.bind_some, Option.bind_some]
  · by_cases he : (splB (toB (CsvP.joinT rows) ++ a1)).2.2 = 0
    · simp only [if_pos he]
      rw [hcat] at he ⊢
      obtain ⟨g, q, h1, h2⟩ := split_join rows a1.data.toList hne
      by_cases hbig : 65536 < (toB (CsvP.joinT rows ++ a1.data.toList)).size
      · unfold splB at he
        rw [if_pos hbig] at he
        cases he
      · have hA : splB (toB (CsvP.joinT rows ++ a1.data.toList)) = ((CsvP.splL g a1.data.toList q rows).1.map rowB, ((CsvP.splL g a1.data.toList q rows).2.1 : Int), (CsvP.splL g a1.data.toList q rows).2.2) := by
          unfold splB
          rw [if_neg hbig, h2]
        have hsz : ¬ 65536 < a1.size := by
          rw [toB_size, List.length_append, ← Lib.size_eq] at hbig
          omega
        have hB : splB a1 = ((CsvP.splL (a1.size + 1) a1.data.toList 0 []).1.map rowB, ((CsvP.splL (a1.size + 1) a1.data.toList 0 []).2.1 : Int), (CsvP.splL (a1.size + 1) a1.data.toList 0 []).2.2) := by
          unfold splB
          rw [if_neg hsz]
        obtain ⟨s1, s2, _⟩ := CsvP.spl_sim g (a1.size + 1) a1.data.toList q 0 rows [] h1 (by rw [← Lib.size_eq]; omega)
        rw [hA] at he
        obtain ⟨r, hr1, hr2, _⟩ := s2 he
        have hB2 : (splB a1).2.2 = 0 := by rw [hB]; exact s1 ▸ he
        have hB1 : (splB a1).1 = r.map rowB := by rw [hB]; show (CsvP.splL (a1.size + 1) a1.data.toList 0 []).1.map rowB = _; rw [hr2, List.nil_append]
        have hA1 : (splB (toB (CsvP.joinT rows ++ a1.data.toList))).1 = rows.map rowB ++ r.map rowB := by rw [hA]; show (CsvP.splL g a1.data.toList q rows).1.map rowB = _; rw [hr1, List.map_append]
        rw [hA1, hB2, hB1]
        rw [hB1] at hBs
        exact j2_false _ _ hb hBs.2 hr hBs.1
    · simp only [if_neg he]
      exact j2_true _ _ _
theorem fin (rows : List CsvP.Row) (a1 : ByteArray) (ha1 : a1.size ≤ 140737488351232) (hne : ∀ r ∈ rows, r ≠ []) (hb : (rows.map rowB).length ≤ 65537) (hr : ∀ r ∈ rows.map rowB, r.length ≤ 65538) :
    Ev (fun k => (csv_Join.f (rows.map rowB)).bind fun bt214 => (if bt214.2 = 0 then ((csv_Split.f bt214.1).bind fun bt216 => (if bt216.2.2 = 0 then ((refrainlaw4_same.f k (rows.map rowB) bt216.1).bind fun t221 => (refrainlaw4_CsvAgain.j1 k a1 (rows.map rowB) bt214.1 (!t221))) else (refrainlaw4_CsvAgain.j1 k a1 (rows.map rowB) bt214.1 true))) else (some (bt214.2 == 2)))) true := by
  have hj : csv_Join.f (rows.map rowB) = some (joinB (rows.map rowB)) := by
    unfold csv_Join.f
    rw [if_pos ⟨by omega, fun r hr' => by have := hr r hr'; omega⟩]
  rcases joinB_ok rows hne with ⟨h1, h2⟩ | h1
  · refine Ev.congr (f := fun k => (refrainlaw4_same.f k (rows.map rowB) (rows.map rowB)).bind fun t221 => (refrainlaw4_CsvAgain.j1 k a1 (rows.map rowB) (toB (CsvP.joinT rows)) (!t221))) (fun k => ?_) ?_
    · rw [hj, h1, Option.bind_some, if_pos rfl]
      unfold csv_Split.f
      rw [splB_join rows hne h2, Option.bind_some, if_pos rfl]
    · exact Ev.bind (same_self _ (by omega) (fun r hr' => by have := hr r hr'; omega)) (j1_ok rows a1 ha1 hne h2 hb hr)
  · refine Ev.congr (f := fun _ => some true) (fun k => ?_) (Ev.now _)
    rw [hj, h1, Option.bind_some, if_neg (by decide)]
    rfl
theorem loop (rows : List CsvP.Row) (a1 : ByteArray) (ha1 : a1.size ≤ 140737488351232) (hne : ∀ r ∈ rows, r ≠ []) (hb : (rows.map rowB).length ≤ 65537) (hr : ∀ r ∈ rows.map rowB, r.length ≤ 65538) : ∀ n i, i + n = (rows.map rowB).length → Ev (fun k => refrainlaw4_CsvAgain.l0 k a1 (rows.map rowB) (i : Int)) true
  | 0, i, h => by
    refine Ev.step (fun k => ?_) (fin rows a1 ha1 hne hb hr)
    simp only [refrainlaw4_CsvAgain.l0]
    rw [if_neg (by omega)]
  | n + 1, i, h => by
    refine Ev.step (f := fun k => refrainlaw4_CsvAgain.l0 k a1 (rows.map rowB) ((i + 1 : Nat) : Int)) (fun k => ?_) (loop rows a1 ha1 hne hb hr n (i + 1) (by omega))
    have hm : rd_L1 (rows.map rowB) (i : Int) ∈ rows.map rowB := mem_rd (by omega)
    have h0 : ¬ ((rd_L1 (rows.map rowB) (i : Int)).length : Int) = 0 := by
      obtain ⟨r, hr1, hr2⟩ := List.mem_map.1 hm
      have := hne r hr1
      rw [← hr2, rowB_len]
      have := List.length_pos_iff.2 this
      omega
    simp only [refrainlaw4_CsvAgain.l0]
    rw [if_pos (by omega), if_pos (by omega), if_neg h0, w64 i (by omega)]
theorem pureG : PureG := by
  intro a0 a1 ha0 ha1
  have key : Ev (fun k => refrainlaw4_CsvAgain.f k a0 a1) true := by
    by_cases hbig : 65536 < a0.size
    · refine Ev.congr (f := fun _ => some true) (fun k => ?_) (Ev.now _)
      unfold refrainlaw4_CsvAgain.f csv_Split.f
      rw [begun_true, Option.bind_some, if_pos rfl, show splB a0 = ([], 0, 2) from if_pos hbig, Option.bind_some, if_neg (by decide)]
      exact (if_pos rfl).trans ((if_pos rfl).trans (if_pos rfl))
    · have hs : splB a0 = ((CsvP.splL (a0.size + 1) a0.data.toList 0 []).1.map rowB, ((CsvP.splL (a0.size + 1) a0.data.toList 0 []).2.1 : Int), (CsvP.splL (a0.size + 1) a0.data.toList 0 []).2.2) := if_neg hbig
      have hsm := spl_small2 a0
      have hnn := CsvP.spl_nonempty (a0.size + 1) a0.data.toList 0 [] (fun r hr => by simp at hr)
      obtain ⟨_, s2, s3⟩ := CsvP.spl_sim (a0.size + 1) (a0.size + 1) a0.data.toList 0 0 [] [] (by rw [← Lib.size_eq]; omega) (by rw [← Lib.size_eq]; omega)
      rw [hs] at hsm
      generalize CsvP.splL (a0.size + 1) a0.data.toList 0 [] = R at *
      obtain ⟨rows, at_, er⟩ := R
      by_cases he : er = 0
      · subst he
        obtain ⟨_, _, _, h0⟩ := s2 rfl
        have h0 : at_ = 0 := h0
        subst h0
        refine Ev.congr (fun k => ?_) (loop rows a1 ha1 hnn hsm.2 hsm.1 (rows.map rowB).length 0 (by omega))
        unfold refrainlaw4_CsvAgain.f csv_Split.f
        rw [begun_true, Option.bind_some, if_pos rfl, hs, Option.bind_some]
        exact (if_pos rfl).trans (if_pos rfl)
      · obtain ⟨g1, g2, g3, g4⟩ := s3 he
        have g1 : rows = [] := g1
        have g3 : at_ < 0 + a0.data.toList.length := g3
        rw [← Lib.size_eq] at g3
        subst g1
        refine Ev.congr (f := fun _ => some true) (fun k => ?_) (Ev.now _)
        unfold refrainlaw4_CsvAgain.f csv_Split.f
        have g4 : er = 40 ∨ er = 41 := g4
        rw [begun_true, Option.bind_some, if_pos rfl, hs, Option.bind_some, if_neg he]
        exact (if_pos rfl).trans ((if_neg (by show ¬ er = 2; rcases g4 with h | h <;> rw [h] <;> decide)).trans ((if_neg (by show ¬ ((at_ : Int) < 0); omega)).trans (if_neg (by show ¬ ((at_ : Int) ≥ (a0.size : Int)); omega))))
  exact key.rounds
end Go.Proofs.YthmcapdakplhdaaDoor.csvAgain

/-
Part 8 of the proof of the law CsvTwo: texts OpnCsvCarriesU, PureCsvCarriesU.
-/
import Derived.Test.YtpkbhfdfgapmlaaGreatDoorMCsvTwo1
import Derived.Test.YtpkbhfdfgapmlaaGreatDoorMCsvTwo6
import Derived.Test.YtpkbhfdfgapmlaaGreatDoorMCsvTwo7
/-! ## text OpnCsvCarriesU -/
section
namespace Go.Proofs.YtpkbhfdfgapmlaaGreatDoor.csvCarries
open Go Go.RowKit Go.Proofs.YtpkbhfdfgapmlaaGreatDoor.Pr Go.Proofs.YtpkbhfdfgapmlaaGreatDoor.Opn Go.Proofs.YtpkbhfdfgapmlaaGreatDoorW.PrintWords Go.Proofs.YtpkbhfdfgapmlaaGreatDoorW.PrintLast Go.Proofs.YtpkbhfdfgapmlaaGreatDoorW.PrintMore
set_option linter.unusedVariables false
def G30 (x : S30) : Prop := x.f0.size ≤ 140737488351232 ∧ (Lit.int .i64 x.f1).wf = true
def M30 (x : S30) : Nat := ((x.f0.size + 1) + 1) + 1
theorem opB30 (n : Nat) : OpensB Tryz.prog (n + 1) 30 k30 G30 M30 :=
  opensB_struct (t := 30) (fl := [(9, 0), (3, 1)]) Tryz.underlying30 (by rfl) (by kernel_rfl) (opensFB_cons (opensB_string Tryz.underlying9) (opensFB_one (opensB_int Tryz.underlying3))) (fun x : S30 => (x.f0, x.f1)) (fun p => (⟨p.1, p.2⟩ : S30)) (fun _ => rfl)
def G24 (x : S24) : Prop := x.f0.size ≤ 140737488351232 ∧ LG 24 (fun x => G30 x) x.f1
def M24 (x : S24) : Nat := ((x.f0.size + 1) + ((List.map (fun x => M30 x) x.f1).sum + 1)) + 1
theorem opB24 (n : Nat) : OpensB Tryz.prog (n + 3) 24 k24 G24 M24 :=
  opensB_struct (t := 24) (fl := [(9, 0), (22, 1)]) Tryz.underlying24 (by rfl) (by kernel_rfl) (opensFB_cons (opensB_string Tryz.underlying9) (opensFB_one (opensB_slice (e := 30) Tryz.underlying22 (by kernel_rfl) (B := 24) (by kernel_rfl) (opB30 n)))) (fun x : S24 => (x.f0, x.f1)) (fun p => (⟨p.1, p.2⟩ : S24)) (fun _ => rfl)
def G43 (x : S43) : Prop := (Lit.int .i64 x.f0).wf = true ∧ (Lit.int .i64 x.f1).wf = true ∧ x.f2.size ≤ 140737488351232 ∧ True
def M43 (x : S43) : Nat := (1 + (1 + ((x.f2.size + 1) + 1))) + 1
theorem opB43 (n : Nat) : OpensB Tryz.prog (n + 1) 43 k43 G43 M43 :=
  opensB_struct (t := 43) (fl := [(3, 0), (2, 1), (9, 2), (4, 3)]) Tryz.underlying43 (by rfl) (by kernel_rfl) (opensFB_cons (opensB_int Tryz.underlying3) (opensFB_cons (opensB_int Tryz.underlying2) (opensFB_cons (opensB_string Tryz.underlying9) (opensFB_one (opensB_bool Tryz.underlying4))))) (fun x : S43 => (x.f0, x.f1, x.f2, x.f3)) (fun p => (⟨p.1, p.2.1, p.2.2.1, p.2.2.2⟩ : S43)) (fun _ => rfl)
def G35 (x : S35) : Prop := x.f0.size ≤ 140737488351232 ∧ (Lit.int .i64 x.f1).wf = true ∧ LG 40 (fun x => G43 x) x.f2
def M35 (x : S35) : Nat := ((x.f0.size + 1) + (1 + ((List.map (fun x => M43 x) x.f2).sum + 1))) + 1
theorem opB35 (n : Nat) : OpensB Tryz.prog (n + 3) 35 k35 G35 M35 :=
  opensB_struct (t := 35) (fl := [(9, 0), (2, 1), (33, 2)]) Tryz.underlying35 (by rfl) (by kernel_rfl) (opensFB_cons (opensB_string Tryz.underlying9) (opensFB_cons (opensB_int Tryz.underlying2) (opensFB_one (opensB_slice (e := 43) Tryz.underlying33 (by kernel_rfl) (B := 40) (by kernel_rfl) (opB43 n))))) (fun x : S35 => (x.f0, x.f1, x.f2)) (fun p => (⟨p.1, p.2.1, p.2.2⟩ : S35)) (fun _ => rfl)
/-- THE ONE PURE STATEMENT of CsvCarries. -/
def PureG : Prop := ∀ (x0 : S24) (x1 : S35) (x2 : (List ByteArray)), G24 x0 → G35 x1 → LG 16 (fun x => x.size ≤ 140737488351232) x2 → M24 x0 + M35 x1 + ((List.map (fun x => (x.size + 1)) x2).sum + 1) ≤ 1048576 → ∃ k, refrainlaw4_CsvCarries.f k x0.f0 x0.f1 x1.f0 x1.f1 x1.f2 x2 = some true
end Go.Proofs.YtpkbhfdfgapmlaaGreatDoor.csvCarries
end

/-! ## text PureCsvCarriesU -/
section
namespace Go.Proofs.YtpkbhfdfgapmlaaGreatDoor.csvCarries
open Go Go.RowKit Go.Proofs.YtpkbhfdfgapmlaaGreatDoor.Pr Go.Proofs.YtpkbhfdfgapmlaaGreatDoor.Opn Go.Proofs.YtpkbhfdfgapmlaaGreatDoor.Pv Go.Proofs.YtpkbhfdfgapmlaaGreatDoor.PuCsv Go.Proofs.YtpkbhfdfgapmlaaGreatDoorW.PrintWords Go.Proofs.YtpkbhfdfgapmlaaGreatDoorW.PrintLast Go.Proofs.YtpkbhfdfgapmlaaGreatDoorW.PrintMore
set_option linter.unusedVariables false
set_option linter.unusedSimpArgs false
theorem mem_size {s : ByteArray} {B : Nat} : ∀ {l : List ByteArray}, (List.map (fun x : ByteArray => x.size + 1) l).sum ≤ B → s ∈ l → s.size ≤ B
  | a :: t, h, hs => by
    rw [List.map_cons, List.sum_cons] at h
    rcases List.mem_cons.1 hs with rfl | hs
    · omega
    · exact mem_size (l := t) (by omega) hs
theorem len_sum : ∀ (l : List Nat), (∀ n ∈ l, 1 ≤ n) → l.length ≤ l.sum
  | [], _ => Nat.le_refl _
  | a :: t, h => by
    have := len_sum t (fun n hn => h n (List.mem_cons_of_mem _ hn))
    have := h a List.mem_cons_self
    rw [List.length_cons, List.sum_cons]; omega
theorem cellsL_cons (a : SA) (aa : List SA) (v : SW) (vs : List SW) : cellsL (a :: aa) (v :: vs) = if okW v = true then (if v.f0 = a.f1 then (if (cellsL aa vs).2 = 0 then (wrS v :: (cellsL aa vs).1, 0) else ([], (cellsL aa vs).2)) else ([], 10)) else ([], 12) := by rw [cellsL]
theorem T_small (l : List ByteArray) (h : ∀ s ∈ l, s.size ≤ 256) : T l ≤ 516 * l.length := by
  induction l with
  | nil => simp [T]
  | cons a t ih =>
    rw [T_cons, List.length_cons]
    have := ih (fun s hs => h s (List.mem_cons_of_mem _ hs))
    have := h a List.mem_cons_self
    omega
/-- The last part: a row read as an event is that event's row. -/
theorem j4_ev (name : ByteArray) (at' : List SA) (row : List ByteArray) (ha : at'.length ≤ 1048576) (hr : row.length ≤ 1048576) (hs : ∀ s ∈ row, s.size ≤ 1048576) : Ev (fun k => refrainlaw4_CsvCarries.j4 k row name at') true := by
  have hok : evOk at' row := ⟨by omega, fun s h => by have := hs s h; omega⟩
  have hev : csv_Event.f name at' row = some (eventS name at' row) := by unfold csv_Event.f; rw [if_pos hok]
  by_cases h0 : (eventS name at' row).2.2.2 = 0
  · obtain ⟨e1, e2, e3⟩ := event_row name at' row h0
    have hro : rowOk at' (eventS name at' row).2.2.1 := ⟨by omega, fun v hv => ⟨by have := okW_size (e3 v hv).1; omega, (e3 v hv).2⟩⟩
    have hrow : csv_Row.f name at' (eventS name at' row).1 (eventS name at' row).2.1 (eventS name at' row).2.2.1 = some (row, 0) := by unfold csv_Row.f; rw [if_pos hro, e2]
    refine Ev.step (f := fun k => (refrainlaw4_sameRow.f k row row).bind fun t => some t) (fun k => ?_) (Ev.bind (row_self row (by omega)) (Ev.now _))
    rw [refrainlaw4_CsvCarries.j4, hev, Option.bind_some, if_pos h0, hrow, Option.bind_some, if_pos rfl]
  · refine Ev.step (f := fun _ => some true) (fun k => ?_) (Ev.now _)
    rw [refrainlaw4_CsvCarries.j4, hev, Option.bind_some, if_neg h0]
theorem hd1 (r : List ByteArray) : rd_L1 [r] 0 = r := rfl
/-- Behind csv.Row, of an event that is not its type's. -/
theorem j2_bad (name : ByteArray) (at' : List SA) (tn : ByteArray) (tm : Int) (vals : List SW) (row : List ByteArray) (hro : rowOk at' vals) (h : (rowS name at' tn tm vals).2 ≠ 0) (h4 : Ev (fun k => refrainlaw4_CsvCarries.j4 k row name at') true) :
    Ev (fun k => refrainlaw4_CsvCarries.j2 k row false name at' tn tm vals) true := by
  refine Ev.step (fun k => ?_) h4
  have e : ((rowS name at' tn tm vals).2 == 0) = false := beq_eq_false_iff_ne.2 h
  rw [refrainlaw4_CsvCarries.j2, show csv_Row.f name at' tn tm vals = some (rowS name at' tn tm vals) by unfold csv_Row.f; rw [if_pos hro], Option.bind_some, e, if_neg (by decide), if_neg (by decide)]
theorem j2_good (name : ByteArray) (at' : List SA) (tn : ByteArray) (tm : Int) (vals : List SW) (row : List ByteArray) (hro : rowOk at' vals) (hv : vals.length ≤ 1048576) (hn : tn.toList = name.toList) (ht : 0 ≤ tm ∧ tm ≤ 4611686018427387904) (hl : vals.length = at'.length) (h : (cellsL at' vals).2 = 0) (h4 : Ev (fun k => refrainlaw4_CsvCarries.j4 k row name at') true) :
    Ev (fun k => refrainlaw4_CsvCarries.j2 k row true name at' tn tm vals) true := by
  have hw : ∀ v ∈ vals, wfW v := fun v h => (hro.2 v h).2
  obtain ⟨i1, i2, i3, i4⟩ := cells_vals at' vals hl hw h
  have hrow : csv_Row.f name at' tn tm vals = some ((showV 1 tm ⟨#[]⟩ false).1 :: (cellsL at' vals).1, 0) := by
    unfold csv_Row.f rowS
    rw [if_pos hro, if_pos hn, if_pos ht, if_pos hl, if_pos h]
  have hre := row_event name at' tm vals hl hw ht.1 ht.2 h
  have hsz : ∀ s ∈ (showV 1 tm ⟨#[]⟩ false).1 :: (cellsL at' vals).1, s.size ≤ 256 := by
    intro s hs
    rcases List.mem_cons.1 hs with rfl | hs
    · exact wr_size ⟨1, tm, ⟨#[]⟩, false⟩ (time_ok tm) ⟨by show (-9223372036854775808 : Int) ≤ tm; omega, by show tm ≤ 9223372036854775807; omega⟩
    · exact i4 s hs
  have hlen : ((showV 1 tm ⟨#[]⟩ false).1 :: (cellsL at' vals).1).length = at'.length + 1 := by rw [List.length_cons, i3]
  generalize (showV 1 tm ⟨#[]⟩ false).1 :: (cellsL at' vals).1 = r at *
  have hrl : r.length ≤ 1048577 := by omega
  have hj : csv_Join.f [r] = some (joinB [r]) := by
    unfold csv_Join.f
    rw [if_pos ⟨by simp, fun x hx => by rw [List.mem_singleton.1 hx]; omega⟩]
  have hev : csv_Event.f name at' r = some (name, tm, vals, 0) := by
    unfold csv_Event.f
    rw [if_pos ⟨by omega, fun s hs => by have := hsz s hs; omega⟩, hre]
  have h3 : Ev (fun k => refrainlaw4_CsvCarries.j3 k row [r] false name at' tn tm vals) true := by
    refine Ev.step (f := fun k => (refrainlaw4_sameEvent.f k name tm vals tn tm vals).bind fun t => if t = true then refrainlaw4_CsvCarries.j4 k row name at' else some false) (fun k => ?_) ?_
    · rw [refrainlaw4_CsvCarries.j3, if_neg (by decide), if_pos (by simp), hd1, hev, Option.bind_some, if_pos rfl]
    · exact Ev.bind (f := fun k t => if t = true then refrainlaw4_CsvCarries.j4 k row name at' else some false) (same_event name tn tm vals (by omega) hn.symm) h4
  have hb := back [r]
  have hne1 : ∀ x ∈ ([r] : List (List ByteArray)), x ≠ [] := fun x hx => by
    rw [List.mem_singleton.1 hx]
    intro e; rw [e] at hlen; simp at hlen
  have hTT : TT [r] ≤ 516 * (at'.length + 1) := by
    rw [TT_cons]
    have := T_small r hsz
    rw [hlen] at this
    show T r + 0 ≤ _
    omega
  generalize hrows : ([r].map fun l => l.map fun s : ByteArray => s.data.toList) = rows at hb
  have hne : ∀ x ∈ rows, x ≠ [] := fun x hx e => by
    have : rowB x ∈ [r] := by rw [← hb]; exact List.mem_map_of_mem hx
    exact hne1 _ this (by rw [e]; rfl)
  have hx : (true != ((0 : Int) == 0)) = false := by decide
  rcases joinB_ok rows hne with ⟨h1, h2⟩ | h1
  · rw [hb] at h1
    have hsp : csv_Split.f (toB (CsvP.joinT rows)) = some ([r], 0, 0) := by
      unfold csv_Split.f
      rw [splB_join rows hne h2, hb]
    refine Ev.step (f := fun k => (refrainlaw4_sameRow.f k r r).bind fun t => refrainlaw4_CsvCarries.j3 k row [r] (!t) name at' tn tm vals) (fun k => ?_) ?_
    · rw [refrainlaw4_CsvCarries.j2, hrow, Option.bind_some, hx, if_neg (by decide), if_pos rfl, hj, h1, Option.bind_some, if_pos rfl, hsp, Option.bind_some, if_pos rfl, if_pos (by simp), if_pos (by simp), hd1]
    · exact Ev.bind (f := fun k t => refrainlaw4_CsvCarries.j3 k row [r] (!t) name at' tn tm vals) (row_self r (by omega)) h3
  · rw [hb] at h1
    have h3 : rowsJ [r] [] = (⟨#[]⟩, 2) := by
      have := h1
      unfold joinB at this
      have hn' : ([r] : List (List ByteArray)).any (·.isEmpty) = false := by
        cases r with
        | nil => exact absurd rfl (hne1 [] (List.mem_singleton.2 rfl))
        | cons a t => rfl
      rwa [hn', if_neg (by decide)] at this
    have hbig := rows_len [r] [] hne1 h3
    have hgt : (vals.length : Int) > 16 := by
      have : ([] : List UInt8).length = 0 := rfl
      omega
    refine Ev.step (f := fun _ => some true) (fun k => ?_) (Ev.now _)
    rw [refrainlaw4_CsvCarries.j2, hrow, Option.bind_some, hx, if_neg (by decide), if_pos rfl, hj, h1, Option.bind_some, if_neg (by decide), if_pos rfl, decide_eq_true hgt]
/-- The loop that asks whether the event is its type's. -/
theorem l0_bad (name : ByteArray) (at' : List SA) (tn : ByteArray) (tm : Int) (vals : List SW) (row : List ByteArray) (i : Int) (h : Ev (fun k => refrainlaw4_CsvCarries.j2 k row false name at' tn tm vals) true) : Ev (fun k => refrainlaw4_CsvCarries.l0 k row false i name at' tn tm vals) true := by
  refine Ev.step (fun k => ?_) h
  rw [refrainlaw4_CsvCarries.l0]
  by_cases hi : i < (vals.length : Int)
  · rw [if_pos hi, if_neg (by decide)]
  · rw [if_neg hi]
theorem l0_ev (name : ByteArray) (at' : List SA) (tn : ByteArray) (tm : Int) (vals : List SW) (row : List ByteArray) (hl : vals.length = at'.length) (hv : vals.length ≤ 1048576)
    (good : (cellsL at' vals).2 = 0 → Ev (fun k => refrainlaw4_CsvCarries.j2 k row true name at' tn tm vals) true) (bad : (cellsL at' vals).2 ≠ 0 → Ev (fun k => refrainlaw4_CsvCarries.j2 k row false name at' tn tm vals) true) :
    ∀ n i, i + n = vals.length → ((cellsL (at'.drop i) (vals.drop i)).2 = 0 ↔ (cellsL at' vals).2 = 0) → Ev (fun k => refrainlaw4_CsvCarries.l0 k row true (i : Int) name at' tn tm vals) true := by
  intro n
  induction n with
  | zero =>
    intro i hi hq
    refine Ev.step (fun k => ?_) (good (hq.1 (by rw [List.drop_eq_nil_of_le (by omega), List.drop_eq_nil_of_le (by omega)]; rfl)))
    rw [refrainlaw4_CsvCarries.l0, if_neg (by omega)]
  | succ n ih =>
    intro i hi hq
    have h1 : i < vals.length := by omega
    have h2 : i < at'.length := by omega
    rw [List.drop_eq_getElem_cons h1, List.drop_eq_getElem_cons h2] at hq
    rw [cellsL_cons] at hq
    by_cases hk : okW vals[i] = true
    · rw [if_pos hk] at hq
      have e1 : ∀ k, refrainlaw4_CsvCarries.l0 (k + 1) row true (i : Int) name at' tn tm vals = refrainlaw4_CsvCarries.l0 k row ((vals[i]).f0 == (at'[i]).f1) ((i + 1 : Nat) : Int) name at' tn tm vals := by
        intro k
        rw [refrainlaw4_CsvCarries.l0, if_pos (by omega), if_pos rfl, if_pos (by omega), rdW_eq h1, rdA_eq h2, show value_Valid.f (vals[i]).f0 (vals[i]).f1 (vals[i]).f2 (vals[i]).f3 = some (okW vals[i]) from valid_f _ _ _ _, hk, Option.bind_some, if_pos rfl, if_pos (by omega), w64n i (by omega)]
      by_cases hf : (vals[i]).f0 = (at'[i]).f1
      · rw [if_pos hf] at hq
        refine Ev.step (fun k => e1 k) ?_
        rw [beq_iff_eq.2 hf]
        refine ih (i + 1) (by omega) ?_
        by_cases h3 : (cellsL (at'.drop (i + 1)) (vals.drop (i + 1))).2 = 0
        · rw [if_pos h3] at hq; exact ⟨fun _ => hq.1 rfl, fun _ => h3⟩
        · rw [if_neg h3] at hq; exact hq
      · rw [if_neg hf] at hq
        refine Ev.step (fun k => e1 k) ?_
        rw [beq_eq_false_iff_ne.2 hf]
        exact l0_bad name at' tn tm vals row _ (bad (fun e => absurd (hq.2 e) (by decide)))
    · rw [if_neg hk] at hq
      refine Ev.step (fun k => ?_) (l0_bad name at' tn tm vals row ((i + 1 : Nat) : Int) (bad (fun e => absurd (hq.2 e) (by decide))))
      have hk' : okW vals[i] = false := by simpa using hk
      rw [refrainlaw4_CsvCarries.l0, if_pos (by omega), if_pos rfl, if_pos (by omega), rdW_eq h1, show value_Valid.f (vals[i]).f0 (vals[i]).f1 (vals[i]).f2 (vals[i]).f3 = some (okW vals[i]) from valid_f _ _ _ _, hk', Option.bind_some, if_neg (by decide), w64n i (by omega)]
theorem wf_of {n : Int} (h : (Lit.int .i64 n).wf = true) : -9223372036854775808 ≤ n ∧ n ≤ 9223372036854775807 := by
  have h' : (decide (IntKind.i64.min ≤ n) && decide (n ≤ IntKind.i64.max)) = true := h
  rw [Bool.and_eq_true, decide_eq_true_eq, decide_eq_true_eq] at h'
  exact h'
theorem pureG : PureG := by
  intro x0 x1 x2 hG0 hG1 hG2 hM
  have hM0 : x0.f1.length ≤ 1048576 := by
    have h1 : x0.f1.length ≤ (List.map (fun x => M30 x) x0.f1).sum := by
      have := len_sum (List.map (fun x => M30 x) x0.f1) (fun i hi => by
        obtain ⟨a, _, rfl⟩ := List.mem_map.1 hi
        unfold M30
        omega)
      rwa [List.length_map] at this
    unfold M24 at hM
    omega
  have hM1 : x1.f2.length ≤ 1048576 := by
    have h1 : x1.f2.length ≤ (List.map (fun x => M43 x) x1.f2).sum := by
      have := len_sum (List.map (fun x => M43 x) x1.f2) (fun i hi => by
        obtain ⟨a, _, rfl⟩ := List.mem_map.1 hi
        unfold M43
        omega)
      rwa [List.length_map] at this
    unfold M35 at hM
    omega
  have hM2 : x2.length ≤ 1048576 := by
    have h1 : x2.length ≤ (List.map (fun x : ByteArray => x.size + 1) x2).sum := by
      have := len_sum (List.map (fun x : ByteArray => x.size + 1) x2) (fun i hi => by
        obtain ⟨a, _, rfl⟩ := List.mem_map.1 hi
        omega)
      rwa [List.length_map] at this
    omega
  have hs2 : ∀ s ∈ x2, s.size ≤ 1048576 := fun s hs => mem_size (by omega) hs
  have hro : rowOk x0.f1 x1.f2 := ⟨by omega, fun v hv => by
    have h := hG1.2.2.2.2 v hv
    exact ⟨by have := h.2.2.1; omega, wf_of h.2.1⟩⟩
  have h4 := j4_ev x0.f0 x0.f1 x2 hM0 hM2 hs2
  have hbad : (rowS x0.f0 x0.f1 x1.f0 x1.f1 x1.f2).2 ≠ 0 → Ev (fun k => refrainlaw4_CsvCarries.j2 k x2 false x0.f0 x0.f1 x1.f0 x1.f1 x1.f2) true := fun h => j2_bad _ _ _ _ _ _ hro h h4
  have hbad0 : (rowS x0.f0 x0.f1 x1.f0 x1.f1 x1.f2).2 ≠ 0 → Ev (fun k => refrainlaw4_CsvCarries.j0 k x2 false x0.f0 x0.f1 x1.f0 x1.f1 x1.f2) true := fun h => by
    refine Ev.step (fun k => ?_) (l0_bad x0.f0 x0.f1 x1.f0 x1.f1 x1.f2 x2 0 (hbad h))
    rw [refrainlaw4_CsvCarries.j0]
  have key : Ev (fun k => refrainlaw4_CsvCarries.f k x0.f0 x0.f1 x1.f0 x1.f1 x1.f2 x2) true := by
    unfold refrainlaw4_CsvCarries.f
    rw [begun_true]
    simp only [Option.bind_some, if_true]
    by_cases c1 : x1.f0.toList = x0.f0.toList
    · simp only [if_pos c1]
      by_cases c2 : x1.f1 ≥ 0
      · simp only [if_pos c2]
        by_cases c3 : x1.f1 ≤ 4611686018427387904
        · simp only [if_pos c3]
          by_cases c4 : x1.f2.length = x0.f1.length
          · rw [show ((x1.f2.length : Int) == (x0.f1.length : Int)) = true from beq_iff_eq.2 (by omega)]
            have e : (rowS x0.f0 x0.f1 x1.f0 x1.f1 x1.f2).2 = (cellsL x0.f1 x1.f2).2 := by
              unfold rowS
              rw [if_pos c1, if_pos ⟨c2, c3⟩, if_pos c4]
              by_cases h : (cellsL x0.f1 x1.f2).2 = 0
              · rw [if_pos h, h]
              · rw [if_neg h]
            refine Ev.step (fun k => ?_) (l0_ev x0.f0 x0.f1 x1.f0 x1.f1 x1.f2 x2 c4 hM1 (fun h => j2_good _ _ _ _ _ _ hro hM1 c1 ⟨c2, c3⟩ c4 h h4) (fun h => hbad (by rw [e]; exact h)) x1.f2.length 0 (by omega) (by rw [List.drop_zero, List.drop_zero]))
            rw [refrainlaw4_CsvCarries.j0]
            rfl
          · rw [show ((x1.f2.length : Int) == (x0.f1.length : Int)) = false from beq_eq_false_iff_ne.2 (by omega)]
            exact hbad0 (by unfold rowS; rw [if_pos c1, if_pos ⟨c2, c3⟩, if_neg c4]; simp)
        · simp only [if_neg c3]
          exact hbad0 (by unfold rowS; rw [if_pos c1, if_neg (fun h => c3 h.2)]; simp)
      · simp only [if_neg c2]
        exact hbad0 (by unfold rowS; rw [if_pos c1, if_neg (fun h => c2 h.1)]; simp)
    · simp only [if_neg c1]
      exact hbad0 (by unfold rowS; rw [if_neg c1]; simp)
  exact key.rounds
end Go.Proofs.YtpkbhfdfgapmlaaGreatDoor.csvCarries
end

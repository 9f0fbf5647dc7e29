/-
Part 6 of the proof of the law CsvTwo: texts PvCsv, ExtEv5, Prx17, PuCsv, CsvS, PuCsv2, PuCsvT, PuEv.
-/
import Derived.Lib.ItoaLen
import Derived.Test.YtpkbhfdfgapmlaaGreatDoorMCsvTwo0
import Derived.Test.YtpkbhfdfgapmlaaGreatDoorMCsvTwo1
import Derived.Test.YtpkbhfdfgapmlaaGreatDoorMCsvTwo2
import Derived.Test.YtpkbhfdfgapmlaaGreatDoorMCsvTwo3
import Derived.Test.YtpkbhfdfgapmlaaGreatDoorMCsvTwo5
/-! ## text PvCsv -/
section
/- csv.Event and csv.Row on lists: no program, no memory. -/
namespace Go.Proofs.YtpkbhfdfgapmlaaGreatDoor.Pv
open Go.RowKit Go.Proofs.YtpkbhfdfgapmlaaGreatDoor.Pu Go.Proofs.YtpkbhfdfgapmlaaGreatDoor.Pr Go.Proofs.YtpkbhfdfgapmlaaGreatDoorW.PrintWords Go.Proofs.YtpkbhfdfgapmlaaGreatDoorW.PrintLast Go.Proofs.YtpkbhfdfgapmlaaGreatDoorW.PrintMore
set_option linter.unusedVariables false
set_option linter.unusedSimpArgs false
abbrev SA := S30
abbrev SW := S43
/-- A cell read aa a value of a kind. -/
def rdS (kind : Int) (s : ByteArray) : Int × Int × ByteArray × Bool × Bool :=
  if kind = 2 then (2, 0, s, false, validV 2 0 s false) else ((readP s.data.toList).1, (readP s.data.toList).2.1, (readP s.data.toList).2.2.1, (readP s.data.toList).2.2.2.1, ((readP s.data.toList).2.2.2.2 == 0 && (readP s.data.toList).1 == kind))
theorem shown_ev (s : ByteArray) (kind : Int) (hs : s.size ≤ 140737488351232) : Ev (fun k => csv_shown.f k s kind) ((readP s.data.toList).1, (readP s.data.toList).2.1, (readP s.data.toList).2.2.1, (readP s.data.toList).2.2.2.1, ((readP s.data.toList).2.2.2.2 == 0 && (readP s.data.toList).1 == kind)) := by
  have h := read_ev s.data.toList (by rw [data_len]; exact hs)
  rw [B_of] at h
  unfold csv_shown.f
  refine Ev.bind (f := fun _ bt179 => _) h ?_
  generalize readP s.data.toList = g
  refine Ev.congr (f := fun _ => some _) (fun k => ?_) (Ev.now _)
  by_cases h1 : g.2.2.2.2 = 0
  · rw [if_pos h1, h1]; rfl
  · rw [if_neg h1, show (g.2.2.2.2 == 0) = false from beq_eq_false_iff_ne.2 h1]; rfl
theorem rdE_ev (kind : Int) (s : ByteArray) (hk : 1 ≤ kind ∧ kind ≤ 3) (hs : s.size ≤ 140737488351232) : Ev (fun k => rdE k kind s) (rdS kind s) := by
  obtain rfl | rfl | rfl : kind = 1 ∨ kind = 2 ∨ kind = 3 := by omega
  · unfold rdS
    rw [if_neg (by decide)]
    refine Ev.congr (f := fun k => csv_shown.f k s 1) (fun k => ?_) (shown_ev s 1 hs)
    unfold rdE; rw [if_pos rfl]
  · unfold rdS
    rw [if_pos rfl]
    refine Ev.congr (f := fun _ => some _) (fun k => ?_) (Ev.now _)
    unfold rdE; rw [if_neg (by decide), if_pos rfl, valid_f]; rfl
  · unfold rdS
    rw [if_neg (by decide)]
    refine Ev.congr (f := fun k => csv_shown.f k s 3) (fun k => ?_) (shown_ev s 3 hs)
    unfold rdE; rw [if_neg (by decide), if_neg (by decide), if_pos rfl]
def valS (r : Int × Int × ByteArray × Bool × Bool) : SW := ⟨r.1, r.2.1, r.2.2.1, r.2.2.2.1⟩
/-- The values of a row's cells behind the first one. -/
def valsL : List SA → List ByteArray → Option (List SW)
  | [], _ => some []
  | _ :: _, [] => none
  | a :: aa, c :: cs => if (rdS a.f1 c).2.2.2.2 = true then (valsL aa cs).map fun l => valS (rdS a.f1 c) :: l else none
theorem rdA_eq {xs : List SA} {i : Nat} (h : i < xs.length) : rd_T30 xs (i : Int) = xs[i] := rd30_eq h
theorem rdO_eq {xs : List ByteArray} {i : Nat} (h : i + 1 < xs.length) : rdOf ByteArray.empty xs ((i : Int) + 1) = xs[i + 1] := by
  show xs.getD _ _ = _
  rw [show ((i : Int) + 1).toNat = i + 1 from by omega, List.getD_eq_getElem?_getD, List.getElem?_eq_getElem h]; rfl
theorem vals_ev (at' : List SA) (row : List ByteArray) (hl : row.length = at'.length + 1) (hk : ∀ a ∈ at', 1 ≤ a.f1 ∧ a.f1 ≤ 3) (hs : ∀ s ∈ row, s.size ≤ 140737488351232) :
    ∀ (n i : Nat) (acc : List SW), n + i = at'.length → Ev (fun k => valsE k at' row n i acc) ((valsL (at'.drop i) (row.drop (i + 1))).map fun l => acc ++ l) := by
  intro n
  induction n with
  | zero =>
    intro i acc h
    refine Ev.congr (f := fun _ => some (some acc)) (fun k => by unfold valsE; rfl) ?_
    rw [List.drop_eq_nil_of_le (by omega)]
    unfold valsL
    rw [Option.map_some, List.append_nil]
    exact Ev.now _
  | succ n ih =>
    intro i acc h
    have hi : i < at'.length := by omega
    have hi1 : i + 1 < row.length := by omega
    rw [List.drop_eq_getElem_cons hi, List.drop_eq_getElem_cons hi1]
    unfold valsL
    have h1 := rdE_ev (at'[i]).f1 (row[i + 1]) (hk _ (List.getElem_mem hi)) (hs _ (List.getElem_mem hi1))
    refine Ev.congr (f := fun k => (rdE k (at'[i]).f1 (row[i + 1])).bind fun r => if r.2.2.2.2 = true then valsE k at' row n (i + 1) (acc ++ [⟨r.1, r.2.1, r.2.2.1, r.2.2.2.1⟩]) else some none) (fun k => by
      conv => lhs; unfold valsE
      rw [rdA_eq hi, rdO_eq hi1]) ?_
    refine Ev.bind (f := fun k r => if r.2.2.2.2 = true then valsE k at' row n (i + 1) (acc ++ [⟨r.1, r.2.1, r.2.2.1, r.2.2.2.1⟩]) else some none) h1 ?_
    by_cases hr : (rdS (at'[i]).f1 (row[i + 1])).2.2.2.2 = true
    · rw [if_pos hr]
      refine Ev.congr (f := fun k => valsE k at' row n (i + 1) (acc ++ [valS (rdS (at'[i]).f1 (row[i + 1]))])) (fun k => by rw [if_pos hr]; rfl) ?_
      have := ih (i + 1) (acc ++ [valS (rdS (at'[i]).f1 (row[i + 1]))]) (by omega)
      rw [Option.map_map]
      have e : ((fun l => acc ++ l) ∘ fun l => valS (rdS (at'[i]).f1 (row[i + 1])) :: l) = fun l => (acc ++ [valS (rdS (at'[i]).f1 (row[i + 1]))]) ++ l := by
        funext l
        simp
      rw [e]
      exact this
    · rw [if_neg hr]
      exact Ev.congr (f := fun _ => some none) (fun k => by rw [if_neg hr]) (Ev.now _)
/-- A row's time. -/
def tmS (row : List ByteArray) : Bool := let t := readP (rdOf ByteArray.empty row 0).data.toList; t.2.2.2.2 == 0 && t.1 == 1 && decide (0 ≤ t.2.1 ∧ t.2.1 ≤ 4611686018427387904)
def kindsOk (at' : List SA) : Prop := ∀ a ∈ at', 1 ≤ a.f1 ∧ a.f1 ≤ 3
instance (at' : List SA) : Decidable (kindsOk at') := by unfold kindsOk; infer_instance
/-- csv.Event. -/
def eventS (name : ByteArray) (at' : List SA) (row : List ByteArray) : ByteArray × Int × List SW × Int :=
  if row.length = at'.length + 1 then (if tmS row = true then (if kindsOk at' then (match valsL at' (row.drop 1) with | none => (⟨#[]⟩, 0, [], 12) | some vs => (name, (readP (rdOf ByteArray.empty row 0).data.toList).2.1, vs, 0)) else (⟨#[]⟩, 0, [], 10)) else (⟨#[]⟩, 0, [], 23)) else (⟨#[]⟩, 0, [], 22)
theorem rd0_mem {row : List ByteArray} (h : 0 < row.length) : rdOf ByteArray.empty row 0 ∈ row := by
  have e : rdOf ByteArray.empty row 0 = row[0] := by
    show row.getD _ _ = _
    rw [show ((0 : Int)).toNat = 0 from rfl, List.getD_eq_getElem?_getD, List.getElem?_eq_getElem h]; rfl
  rw [e]; exact List.getElem_mem h
theorem ev_ev (name : ByteArray) (at' : List SA) (row : List ByteArray) (hs : ∀ s ∈ row, s.size ≤ 140737488351232) : Ev (fun k => evE k name at' row) (eventS name at' row) := by
  unfold eventS
  by_cases hl : row.length = at'.length + 1
  · rw [if_pos hl]
    have h0 := shown_ev (rdOf ByteArray.empty row 0) 1 (hs _ (rd0_mem (by omega)))
    simp only [evE, if_pos hl]
    refine Ev.bind h0 ?_
    unfold tmS
    dsimp only
    generalize readP (rdOf ByteArray.empty row 0).data.toList = g
    by_cases ht : (g.2.2.2.2 == 0 && g.1 == 1) = true ∧ 0 ≤ g.2.1 ∧ g.2.1 ≤ 4611686018427387904
    · rw [if_pos (by rw [ht.1]; simp [ht.2])]
      by_cases hk : kindsOk at'
      · rw [if_pos hk]
        obtain ⟨K, hv⟩ := vals_ev at' row hl hk hs at'.length 0 [] (by omega)
        refine ⟨K, fun k hk' => ?_⟩
        have e : valsE k at' row at'.length 0 [] = some ((valsL at' (row.drop 1)).map fun l => [] ++ l) := hv k hk'
        have hk2 : ∀ a ∈ at', 1 ≤ a.f1 ∧ a.f1 ≤ 3 := hk
        dsimp only
        rw [if_pos ht, if_pos hk2, e]
        cases valsL at' (row.drop 1) <;> rfl
      · rw [if_neg hk]
        have hk2 : ¬ ∀ a ∈ at', 1 ≤ a.f1 ∧ a.f1 ≤ 3 := hk
        exact Ev.congr (f := fun _ => some _) (fun k => by rw [if_pos ht, if_neg hk2]) (Ev.now _)
    · rw [if_neg (by
        intro h
        apply ht
        rw [Bool.and_eq_true] at h
        exact ⟨h.1, of_decide_eq_true h.2⟩)]
      exact Ev.congr (f := fun _ => some _) (fun k => by rw [if_neg ht]) (Ev.now _)
  · rw [if_neg hl]
    exact Ev.congr (f := fun _ => some _) (fun k => by unfold evE; rw [if_neg hl]) (Ev.now _)
/-- A value aa it stands in a cell. -/
def wrS (v : SW) : ByteArray := if v.f0 = 2 then v.f2 else (showV v.f0 v.f1 v.f2 v.f3).1
def okW (v : SW) : Bool := validV v.f0 v.f1 v.f2 v.f3
def wfW (v : SW) : Prop := -9223372036854775808 ≤ v.f1 ∧ v.f1 ≤ 9223372036854775807
/-- The values' cells, or the error. -/
def cellsL : List SA → List SW → List ByteArray × Int
  | _, [] => ([], 0)
  | [], _ :: _ => ([], 0)
  | a :: aa, v :: vs => if okW v = true then (if v.f0 = a.f1 then (if (cellsL aa vs).2 = 0 then (wrS v :: (cellsL aa vs).1, 0) else ([], (cellsL aa vs).2)) else ([], 10)) else ([], 12)
theorem wrE_eq (v : SW) (hw : wfW v) : wrE v.f0 v.f1 v.f2 v.f3 = some (wrS v) := by
  unfold wrE wrS
  by_cases h : v.f0 = 2
  · rw [if_pos h, if_pos h]
  · rw [if_neg h, if_neg h]
    unfold csv_show.f
    rw [show_f _ _ _ _ hw]; rfl
theorem rdW_eq {xs : List SW} {i : Nat} (h : i < xs.length) : rd_T43 xs (i : Int) = xs[i] := rd43_eq h
theorem cells_eq (at' : List SA) (vals : List SW) (hl : vals.length = at'.length) (hw : ∀ v ∈ vals, wfW v) :
    ∀ (n i : Nat) (acc : List ByteArray), n + i = at'.length → cellsE at' vals n i acc = some (if (cellsL (at'.drop i) (vals.drop i)).2 = 0 then (acc ++ (cellsL (at'.drop i) (vals.drop i)).1, 0) else ([], (cellsL (at'.drop i) (vals.drop i)).2)) := by
  intro n
  induction n with
  | zero =>
    intro i acc h
    unfold cellsE
    rw [List.drop_eq_nil_of_le (by omega), List.drop_eq_nil_of_le (by omega)]
    simp [cellsL]
  | succ n ih =>
    intro i acc h
    have hi : i < at'.length := by omega
    have hi1 : i < vals.length := by omega
    rw [List.drop_eq_getElem_cons hi, List.drop_eq_getElem_cons hi1]
    conv => lhs; unfold cellsE
    rw [rdA_eq hi, rdW_eq hi1, show value_Valid.f (vals[i]).f0 (vals[i]).f1 (vals[i]).f2 (vals[i]).f3 = some (okW vals[i]) from valid_f _ _ _ _, Option.bind_some]
    conv => rhs; unfold cellsL
    by_cases h1 : okW vals[i] = true
    · rw [if_pos h1, if_pos h1]
      by_cases h2 : (vals[i]).f0 = (at'[i]).f1
      · rw [if_pos h2, if_pos h2, wrE_eq _ (hw _ (List.getElem_mem hi1)), Option.bind_some, ih (i + 1) _ (by omega)]
        by_cases h3 : (cellsL (at'.drop (i + 1)) (vals.drop (i + 1))).2 = 0
        · rw [if_pos h3, if_pos h3, if_pos rfl, List.append_assoc]; rfl
        · rw [if_neg h3, if_neg h3, if_neg h3]
      · rw [if_neg h2, if_neg h2, if_neg (by decide)]
    · rw [if_neg h1, if_neg h1, if_neg (by decide)]
/-- csv.Row. -/
def rowS (name : ByteArray) (at' : List SA) (tn : ByteArray) (tm : Int) (vals : List SW) : List ByteArray × Int :=
  if tn.toList = name.toList then (if 0 ≤ tm ∧ tm ≤ 4611686018427387904 then (if vals.length = at'.length then (if (cellsL at' vals).2 = 0 then ((showV 1 tm ⟨#[]⟩ false).1 :: (cellsL at' vals).1, 0) else ([], (cellsL at' vals).2)) else ([], 22)) else ([], 23)) else ([], 21)
theorem row_eq (name : ByteArray) (at' : List SA) (tn : ByteArray) (tm : Int) (vals : List SW) (hw : ∀ v ∈ vals, wfW v) : rowE name at' tn tm vals = some (rowS name at' tn tm vals) := by
  unfold rowE rowS
  by_cases h1 : tn.toList = name.toList
  · rw [if_pos h1, if_pos h1]
    by_cases h2 : 0 ≤ tm ∧ tm ≤ 4611686018427387904
    · rw [if_pos h2, if_pos h2]
      by_cases h3 : vals.length = at'.length
      · rw [if_pos h3, if_pos h3]
        unfold csv_show.f
        rw [show_f _ _ _ _ (by omega), Option.bind_some, Option.bind_some, cells_eq at' vals h3 hw _ 0 _ (by omega)]
        rfl
      · rw [if_neg h3, if_neg h3]
    · rw [if_neg h2, if_neg h2]
  · rw [if_neg h1, if_neg h1]
end Go.Proofs.YtpkbhfdfgapmlaaGreatDoor.Pv
end

/-! ## text ExtEv5 -/
section
/- csv.Event and csv.Row as the print calls them. -/
namespace Go.Proofs.YtpkbhfdfgapmlaaGreatDoor.Pr
open Go Go.RowKit Go.Proofs.YtpkbhfdfgapmlaaGreatDoor.Pv Go.Proofs.YtpkbhfdfgapmlaaGreatDoorW.PrintWords Go.Proofs.YtpkbhfdfgapmlaaGreatDoorW.PrintLast Go.Proofs.YtpkbhfdfgapmlaaGreatDoorW.PrintMore
set_option linter.unusedVariables false
/-- What the walk of csv.Event asks of its arguments' sizes. -/
def evOk (at' : List (S30)) (row : List ByteArray) : Prop := at'.length ≤ 3518437208882 ∧ ∀ s ∈ row, s.size ≤ 140737488351232
instance (at' : List (S30)) (row : List ByteArray) : Decidable (evOk at' row) := by unfold evOk; infer_instance
def csv_Event.f (a0_0 : ByteArray) (l0_1 : List (S30)) (l1 : List ByteArray) : Option (ByteArray × Int × (List (S43)) × Int) := if evOk l0_1 l1 then some (eventS a0_0 l0_1 l1) else none
theorem csv_Event.calls (a0_0 : ByteArray) (A0_1 : Option Addr) (c0_1 : Nat) (l0_1 : List (S30)) (A1 : Option Addr) (c1 : Nat) (l1 : List ByteArray) (r1 : ByteArray) (r2 : Int) (r3 : List (S43)) (r4 : Int) (w : World) (hr0_1 : Kd.C k30 w A0_1 l0_1.length l0_1) (hc0_1 : l0_1.length ≤ c0_1) (hr1 : Kd.C Kd.string w A1 l1.length l1) (hc1 : l1.length ≤ c1) (HL_LErr : Aside0 (LErr w)) (HL_LG0 : Aside0 (LG0 w)) (HL_LSyn : Aside0 (LSyn w)) (h : csv_Event.f a0_0 l0_1 l1 = some (r1, r2, r3, r4)) :
    Calls Tryz.prog 10 #[.agg #[.string a0_0, .slice A0_1 l0_1.length c0_1], .slice A1 l1.length c1] w fun e w' => ∃ v2_ : Value, e = .returned (.tuple #[.agg #[.string r1, .int .i64 r2, v2_], .int .i64 r4]) ∧ Kd.R k43 43 w' w.heap.size (fun _ => True) v2_ r3 ∧ Below w.heap.size w w' := by
  unfold csv_Event.f at h
  by_cases hk : evOk l0_1 l1
  · rw [if_pos hk] at h
    obtain ⟨k, hk2⟩ := (ev_ev a0_0 l0_1 l1 hk.2).rounds
    have e := Option.some.inj h
    exact csv_Event k a0_0 A0_1 c0_1 l0_1 A1 c1 l1 r1 r2 r3 r4 w HL_LErr HL_LG0 HL_LSyn hr0_1 hc0_1 hr1 hc1 hk.1 (fun s hs => Nat.le_trans (hk.2 s hs) (by decide)) (hk2.trans (congrArg some e))
  · rw [if_neg hk] at h
    cases h
def rowOk (at' : List (S30)) (vals : List (S43)) : Prop := at'.length ≤ 3518437208882 ∧ ∀ v ∈ vals, v.f2.size ≤ 140737488355328 ∧ wfW v
def csv_Row.g (a0_0 : ByteArray) (l0_1 : List (S30)) (a1_0 : ByteArray) (a1_1 : Int) (l1_2 : List (S43)) : List ByteArray × Int := rowS a0_0 l0_1 a1_0 a1_1 l1_2
instance (v : SW) : Decidable (wfW v) := by unfold wfW; infer_instance
instance (at' : List (S30)) (vals : List (S43)) : Decidable (rowOk at' vals) := by unfold rowOk; infer_instance
def csv_Row.f (a0_0 : ByteArray) (l0_1 : List (S30)) (a1_0 : ByteArray) (a1_1 : Int) (l1_2 : List (S43)) : Option (List ByteArray × Int) := if rowOk l0_1 l1_2 then some (rowS a0_0 l0_1 a1_0 a1_1 l1_2) else none
theorem csv_Row.calls (a0_0 : ByteArray) (A0_1 : Option Addr) (c0_1 : Nat) (l0_1 : List (S30)) (a1_0 : ByteArray) (a1_1 : Int) (A1_2 : Option Addr) (c1_2 : Nat) (l1_2 : List (S43)) (r1 : List ByteArray) (r2 : Int) (w : World) (hr0_1 : Kd.C k30 w A0_1 l0_1.length l0_1) (hc0_1 : l0_1.length ≤ c0_1) (hr1_2 : Kd.C k43 w A1_2 l1_2.length l1_2) (hc1_2 : l1_2.length ≤ c1_2) (HL_LG0 : Aside0 (LG0 w)) (h : csv_Row.f a0_0 l0_1 a1_0 a1_1 l1_2 = some (r1, r2)) :
    Calls Tryz.prog 14 #[.agg #[.string a0_0, .slice A0_1 l0_1.length c0_1], .agg #[.string a1_0, .int .i64 a1_1, .slice A1_2 l1_2.length c1_2]] w fun e w' => ∃ v0_ : Value, e = .returned (.tuple #[v0_, .int .i64 r2]) ∧ Kd.R Kd.string 9 w' w.heap.size (fun _ => True) v0_ r1 ∧ Below w.heap.size w w' := by
  unfold csv_Row.f at h
  by_cases hk : rowOk l0_1 l1_2
  · rw [if_pos hk, ← row_eq _ _ _ _ _ (fun v hv => (hk.2 v hv).2)] at h
    exact csv_Row a0_0 A0_1 c0_1 l0_1 a1_0 a1_1 A1_2 c1_2 l1_2 r1 r2 w HL_LG0 hr0_1 hc0_1 hr1_2 hc1_2 hk.1 (fun v hv => (hk.2 v hv).1) h
  · rw [if_neg hk] at h
    cases h
end Go.Proofs.YtpkbhfdfgapmlaaGreatDoor.Pr
end

/-! ## text Prx17 -/
section
namespace Go.Proofs.YtpkbhfdfgapmlaaGreatDoor.Pr
open Go.RowKit Go.Proofs.YtpkbhfdfgapmlaaGreatDoorW.PrintWords Go.Proofs.YtpkbhfdfgapmlaaGreatDoorW.PrintLast Go.Proofs.YtpkbhfdfgapmlaaGreatDoorW.PrintMore
attribute [local go_sem] max2_int min2_int max_two min_two max_three min_three max_four min_four   -- for this text's walks alone
attribute [local go_sem high] Go.Proofs.YtpkbhfdfgapmlaaGreatDoor.isSome_setCell
set_option maxRecDepth 100000
set_option linter.unusedVariables false
set_option linter.unusedSimpArgs false

/-! ### refrainlaw4_same: function 21 -/
/-! ### refrainlaw4_mark: function 48 -/
/-! ### refrainlaw4_room: function 50 -/
/-! ### refrainlaw4_longer: function 75 -/
/-! ### refrainlaw4_size: function 45 -/
end Go.Proofs.YtpkbhfdfgapmlaaGreatDoor.Pr
end

/-! ## text PuCsv -/
section
/- What the statements about csv compute, in plain words. -/
namespace Go.Proofs.YtpkbhfdfgapmlaaGreatDoor.PuCsv
open Go Go.RowKit Go.Proofs.YtpkbhfdfgapmlaaGreatDoor.Pr Go.Proofs.YtpkbhfdfgapmlaaGreatDoorW.PrintWords Go.Proofs.YtpkbhfdfgapmlaaGreatDoorW.PrintLast Go.Proofs.YtpkbhfdfgapmlaaGreatDoorW.PrintMore
set_option linter.unusedVariables false
theorem w64 (i : Nat) (h : i ≤ 4611686018427387904) : wrap64 ((i : Int) + 1) = ((i + 1 : Nat) : Int) := by
  unfold wrap64
  omega
theorem row_l0 (a : List ByteArray) (hb : a.length ≤ 4611686018427387904) : ∀ n i, i + n = a.length → Ev (fun k => refrainlaw4_sameRow.l0 k a a (i : Int)) true
  | 0, i, h => by
    refine Ev.step (f := fun _ => some true) (fun k => ?_) (Ev.now _)
    simp only [refrainlaw4_sameRow.l0]
    rw [if_neg (by omega)]
  | n + 1, i, h => by
    refine Ev.step (f := fun k => refrainlaw4_sameRow.l0 k a a ((i + 1 : Nat) : Int)) (fun k => ?_) (row_l0 a hb n (i + 1) (by omega))
    simp only [refrainlaw4_sameRow.l0]
    rw [if_pos (by omega), if_pos (by omega), if_pos (by omega), if_pos trivial, w64 i (by omega)]
theorem row_self (a : List ByteArray) (hb : a.length ≤ 4611686018427387904) : Ev (fun k => refrainlaw4_sameRow.f k a a) true := by
  refine Ev.congr (fun k => ?_) (row_l0 a hb a.length 0 (by omega))
  unfold refrainlaw4_sameRow.f
  rw [if_pos rfl]
  rfl
theorem begun_split : splB (⟨#[97, 44, 34, 98, 44, 99, 34, 13, 10]⟩ : ByteArray) = ([[⟨#[97]⟩, ⟨#[98, 44, 99]⟩]], 0, 0) := by kernel_rfl
theorem begun_join : joinB [[⟨#[97]⟩, ⟨#[98, 44, 99]⟩]] = (⟨#[97, 44, 34, 98, 44, 99, 34, 13, 10]⟩, 0) := by kernel_rfl
theorem begun_true : refrainlaw4_begun.f = some true := by
  unfold refrainlaw4_begun.f csv_Split.f csv_Join.f
  rw [begun_split, Option.bind_some]
  show (if (0 : Int) = 0 then _ else _) = _
  rw [if_pos rfl]
  show (if (0 : Int) = 0 then _ else _) = _
  rw [if_pos rfl]
  show (if (1 : Int) = 1 then _ else _) = _
  rw [if_pos rfl]
  show (if (0 : Int) < 1 then _ else _) = _
  rw [if_pos (by decide)]
  show (if (2 : Int) = 2 then _ else _) = _
  rw [if_pos rfl]
  show (if (1 : Int) < 2 then _ else _) = _
  rw [if_pos (by decide)]
  show (if (⟨#[98, 44, 99]⟩ : ByteArray).toList = [98, 44, 99] then _ else _) = _
  rw [if_pos (by rw [Lib.toList_data])]
  show (if 1 ≤ 140737488355328 ∧ (∀ r ∈ [[(⟨#[97]⟩ : ByteArray), ⟨#[98, 44, 99]⟩]], r.length ≤ 140737488355328) then some (joinB [[⟨#[97]⟩, ⟨#[98, 44, 99]⟩]]) else none).bind _ = _
  rw [if_pos ⟨by decide, by intro r hr; rw [List.mem_singleton.1 hr]; decide⟩, begun_join, Option.bind_some]
  show (if (0 : Int) = 0 then some ((⟨#[97, 44, 34, 98, 44, 99, 34, 13, 10]⟩ : ByteArray).toList == [97, 44, 34, 98, 44, 99, 34, 13, 10]) else _) = _
  rw [if_pos rfl, Lib.toList_data]
  rfl
end Go.Proofs.YtpkbhfdfgapmlaaGreatDoor.PuCsv
end

/-! ## text CsvS -/
section
/- Reading does not hang on the place and on what was read before. -/
namespace Go.Proofs.YtpkbhfdfgapmlaaGreatDoor.CsvP
set_option linter.unusedVariables false
set_option linter.unusedSimpArgs false
end Go.Proofs.YtpkbhfdfgapmlaaGreatDoor.CsvP
end

/-! ## text PuCsv2 -/
section
/- What csv.Join writes is what csv.Split reads. -/
namespace Go.Proofs.YtpkbhfdfgapmlaaGreatDoor.PuCsv
open Go Go.RowKit Go.Proofs.YtpkbhfdfgapmlaaGreatDoor.Pr Go.Proofs.YtpkbhfdfgapmlaaGreatDoorW.PrintWords Go.Proofs.YtpkbhfdfgapmlaaGreatDoorW.PrintLast Go.Proofs.YtpkbhfdfgapmlaaGreatDoorW.PrintMore
set_option linter.unusedVariables false
theorem toB_list (l : List UInt8) : (toB l).data.toList = l := rfl
theorem toB_size (l : List UInt8) : (toB l).size = l.length := by
  show l.toArray.size = _
  rw [List.size_toArray]
theorem cellsJ_none_or : ∀ (row : CsvP.Row) (first : Bool) (acc : List UInt8), row ≠ [] → cellsJ (rowB row) first acc = none ∨ cellsJ (rowB row) first acc = some ((if first = true then acc else acc ++ [44]) ++ CsvP.rowT row)
  | [], _, _, h => absurd rfl h
  | [s], first, acc, _ => by
    show cellsJ [toB s] first acc = none ∨ cellsJ [toB s] first acc = _
    rw [cellsJ, cellsJ, toB_list]
    show _ ∨ _ = some (_ ++ CsvP.wr s)
    generalize (if first = true then acc else acc ++ [44]) = b
    split
    · exact .inl rfl
    · split
      · exact .inl rfl
      · exact .inr rfl
  | s :: t :: r, first, acc, _ => by
    have ih := cellsJ_none_or (t :: r) false ((if first = true then acc else acc ++ [44]) ++ CsvP.wr s) (by simp)
    have e : rowB (s :: t :: r) = toB s :: rowB (t :: r) := rfl
    rw [e, cellsJ, toB_list]
    generalize (if first = true then acc else acc ++ [44]) = b at *
    split
    · exact .inl rfl
    · split
      · exact .inl rfl
      · rcases ih with h | h
        · exact .inl h
        · refine .inr (h.trans ?_)
          rw [if_neg (by decide), CsvP.rowT]
          simp
theorem rowsJ_ok : ∀ (rows : List CsvP.Row) (acc : List UInt8), (∀ r ∈ rows, r ≠ []) → (rowsJ (rows.map rowB) acc = (toB (acc ++ CsvP.joinT rows), 0) ∧ (acc ++ CsvP.joinT rows).length ≤ 65536) ∨ rowsJ (rows.map rowB) acc = (⟨#[]⟩, 2)
  | [], acc, _ => by
    show (rowsJ [] acc = _ ∧ _) ∨ rowsJ [] acc = _
    rw [rowsJ, CsvP.joinT, List.append_nil]
    split
    · exact .inr rfl
    · exact .inl ⟨rfl, by omega⟩
  | row :: rows, acc, h => by
    show (rowsJ (rowB row :: rows.map rowB) acc = _ ∧ _) ∨ rowsJ (rowB row :: rows.map rowB) acc = _
    rw [rowsJ_cons]
    rcases cellsJ_none_or row true acc (h row List.mem_cons_self) with h1 | h1
    · rw [h1]; exact .inr rfl
    · rw [h1]
      have ih := rowsJ_ok rows (acc ++ CsvP.rowT row ++ [13, 10]) (fun r hr => h r (List.mem_cons_of_mem _ hr))
      have e : acc ++ CsvP.rowT row ++ [13, 10] ++ CsvP.joinT rows = acc ++ CsvP.joinT (row :: rows) := by rw [CsvP.joinT]; simp
      rw [e] at ih
      exact ih
theorem joinB_ok (rows : List CsvP.Row) (h : ∀ r ∈ rows, r ≠ []) : (joinB (rows.map rowB) = (toB (CsvP.joinT rows), 0) ∧ (CsvP.joinT rows).length ≤ 65536) ∨ joinB (rows.map rowB) = (⟨#[]⟩, 2) := by
  have hn : (rows.map rowB).any (·.isEmpty) = false := by
    rw [List.any_eq_false]
    intro x hx
    obtain ⟨r, hr, rfl⟩ := List.mem_map.1 hx
    have := h r hr
    cases r with
    | nil => exact absurd rfl this
    | cons a t => simp [rowB]
  unfold joinB
  rw [hn, if_neg (by decide)]
  exact rowsJ_ok rows [] h
/-- What is written, and something behind it, is read as the rows and what is behind them. -/
theorem split_join (rows : List CsvP.Row) (more : List UInt8) (h : ∀ r ∈ rows, r ≠ []) :
    ∃ g q, more.length < g ∧ CsvP.splL ((toB (CsvP.joinT rows ++ more)).size + 1) (toB (CsvP.joinT rows ++ more)).data.toList 0 [] = CsvP.splL g more q rows := by
  rw [toB_list, toB_size]
  obtain ⟨g, q, h1, h2⟩ := CsvP.spl_join rows ((CsvP.joinT rows ++ more).length + 1) more 0 [] h (Nat.lt_succ_self _)
  exact ⟨g, q, h1, by rw [h2, List.nil_append]⟩
theorem splB_join (rows : List CsvP.Row) (h : ∀ r ∈ rows, r ≠ []) (hl : (CsvP.joinT rows).length ≤ 65536) : splB (toB (CsvP.joinT rows)) = (rows.map rowB, 0, 0) := by
  obtain ⟨g, q, h1, h2⟩ := split_join rows [] h
  rw [List.append_nil] at h2
  obtain ⟨g', rfl⟩ : ∃ g', g = g' + 1 := ⟨g - 1, by simp at h1; omega⟩
  unfold splB
  rw [if_neg (by rw [toB_size]; omega), h2]
  rfl
end Go.Proofs.YtpkbhfdfgapmlaaGreatDoor.PuCsv
end

/-! ## text PuCsvT -/
section
/- How long a written text may be. -/
namespace Go.Proofs.YtpkbhfdfgapmlaaGreatDoor.PuCsv
open Go Go.RowKit Go.Proofs.YtpkbhfdfgapmlaaGreatDoor.Pr Go.Proofs.YtpkbhfdfgapmlaaGreatDoorW.PrintWords Go.Proofs.YtpkbhfdfgapmlaaGreatDoorW.PrintLast Go.Proofs.YtpkbhfdfgapmlaaGreatDoorW.PrintMore
set_option linter.unusedVariables false
set_option linter.unusedSimpArgs false
/-- What the law reckons of a row, of rows. -/
def T (l : List ByteArray) : Nat := (l.map fun s : ByteArray => 2 * s.size + 4).sum
def TT (x : List (List ByteArray)) : Nat := (x.map T).sum
theorem T_cons (s : ByteArray) (l : List ByteArray) : T (s :: l) = 2 * s.size + 4 + T l := by simp [T]
theorem TT_cons (l : List ByteArray) (x : List (List ByteArray)) : TT (l :: x) = T l + TT x := by simp [TT]
theorem wr_len (s : List UInt8) : (CsvP.wr s).length ≤ 2 * s.length + 2 := by
  have := esc_len s
  unfold CsvP.wr
  split
  · simp only [List.length_cons, List.length_append, List.length_nil]; omega
  · omega
theorem cells_len : ∀ (l : List ByteArray) (first : Bool) (acc : List UInt8),
    (cellsJ l first acc = none → 65536 < acc.length + T l) ∧ ∀ a, cellsJ l first acc = some a → a.length + l.length + (if first = true ∧ l ≠ [] then 1 else 0) ≤ acc.length + T l
  | [], first, acc => ⟨fun h => by simp [cellsJ] at h, fun a h => by
      rw [cellsJ] at h
      obtain rfl := Option.some.inj h
      simp [T]⟩
  | s :: l, first, acc => by
    have hw := wr_len s.data.toList
    rw [← Lib.size_eq] at hw
    have hb : ((if first = true then acc else acc ++ [44]) ++ CsvP.wr s.data.toList).length + (if first = true then 1 else 0) ≤ acc.length + 2 * s.size + 3 := by
      rw [List.length_append]
      cases first
      · simp only [Bool.false_eq_true, if_false, List.length_append, List.length_singleton]; omega
      · simp only [if_true]; omega
    rw [cellsJ, T_cons]
    generalize (if first = true then acc else acc ++ [44]) ++ CsvP.wr s.data.toList = b at *
    obtain ⟨i1, i2⟩ := cells_len l false b
    refine ⟨fun h => ?_, fun a h => ?_⟩
    · split at h
      · omega
      · split at h
        · split at hb <;> omega
        · have := i1 h
          split at hb <;> omega
    · split at h
      · cases h
      · split at h
        · cases h
        · have := i2 a h
          simp only [Bool.false_eq_true, false_and, if_false] at this
          rw [List.length_cons]
          cases first
          · simp only [Bool.false_eq_true, false_and, if_false] at hb ⊢; omega
          · simp only [if_true] at hb
            rw [if_pos ⟨rfl, by simp⟩]
            omega
theorem rows_len : ∀ (x : List (List ByteArray)) (acc : List UInt8), (∀ r ∈ x, r ≠ []) → rowsJ x acc = (⟨#[]⟩, 2) → 65536 < acc.length + TT x
  | [], acc, _, h => by
    rw [rowsJ] at h
    split at h
    · simp only [TT, List.map_nil, List.sum_nil]; omega
    · have := (Prod.mk.inj h).2
      cases this
  | r :: x, acc, hr, h => by
    rw [rowsJ_cons] at h
    obtain ⟨c1, c2⟩ := cells_len r true acc
    rw [TT_cons]
    cases hc : cellsJ r true acc with
    | none => have := c1 hc; omega
    | some a =>
      rw [hc] at h
      have h2 := c2 a hc
      have hne := hr r List.mem_cons_self
      rw [if_pos ⟨rfl, hne⟩] at h2
      have h3 := rows_len x (a ++ [13, 10]) (fun q hq => hr q (List.mem_cons_of_mem _ hq)) h
      have h4 := List.length_pos_iff.2 hne
      rw [List.length_append] at h3
      simp only [List.length_cons, List.length_nil] at h3
      omega
theorem back (x : List (List ByteArray)) : (x.map fun l => l.map fun s : ByteArray => s.data.toList).map rowB = x := by
  have e : ∀ s : ByteArray, toB s.data.toList = s := fun s => by
    show (⟨s.data.toList.toArray⟩ : ByteArray) = s
    rw [Array.toArray_toList]
  rw [List.map_map]
  refine (List.map_congr_left (fun l _ => ?_)).trans (List.map_id x)
  show (l.map fun s : ByteArray => s.data.toList).map toB = l
  rw [List.map_map]
  refine (List.map_congr_left (fun s _ => ?_)).trans (List.map_id l)
  exact e s
end Go.Proofs.YtpkbhfdfgapmlaaGreatDoor.PuCsv
end

/-! ## text PuEv -/
section
/- Rows and events: what is written is read back, what is read is written as it was. -/
namespace Go.Proofs.YtpkbhfdfgapmlaaGreatDoor.Pv
open Go Go.RowKit Go.Proofs.YtpkbhfdfgapmlaaGreatDoor.Pu Go.Proofs.YtpkbhfdfgapmlaaGreatDoor.Pr Go.Proofs.YtpkbhfdfgapmlaaGreatDoorW.PrintWords Go.Proofs.YtpkbhfdfgapmlaaGreatDoorW.PrintLast Go.Proofs.YtpkbhfdfgapmlaaGreatDoorW.PrintMore
set_option linter.unusedVariables false
set_option linter.unusedSimpArgs false
theorem okW_two {v : SW} (h : okW v = true) (h2 : v.f0 = 2) : v.f1 = 0 ∧ v.f3 = false ∧ v.f2.size ≤ 256 := by
  unfold okW validV at h
  rw [h2, if_neg (by decide), if_pos rfl] at h
  simp only [Bool.and_eq_true, beq_iff_eq, decide_eq_true_eq] at h
  exact ⟨h.1.1, h.1.2, h.2⟩
theorem okW_kind {v : SW} (h : okW v = true) : 1 ≤ v.f0 ∧ v.f0 ≤ 3 := by
  unfold okW validV at h
  by_cases h1 : v.f0 = 1
  · omega
  · by_cases h2 : v.f0 = 2
    · omega
    · by_cases h3 : v.f0 = 3
      · omega
      · rw [if_neg h1, if_neg h2, if_neg h3] at h; cases h
theorem okW_size {v : SW} (h : okW v = true) : v.f2.size ≤ 256 := by
  by_cases h2 : v.f0 = 2
  · exact (okW_two h h2).2.2
  · unfold okW validV at h
    have e : (v.f2.toList == []) = true := by
      by_cases h1 : v.f0 = 1
      · rw [if_pos h1] at h; simp only [Bool.and_eq_true] at h; exact h.1
      · rw [if_neg h1, if_neg h2] at h
        by_cases h3 : v.f0 = 3
        · rw [if_pos h3] at h; simp only [Bool.and_eq_true] at h; exact h.2
        · rw [if_neg h3] at h; cases h
    rw [empty_of e]; decide
theorem rd_wr (v : SW) (hv : okW v = true) (hw : wfW v) : rdS v.f0 (wrS v) = (v.f0, v.f1, v.f2, v.f3, true) := by
  unfold rdS wrS
  by_cases h2 : v.f0 = 2
  · obtain ⟨h3, h4, h5⟩ := okW_two hv h2
    rw [if_pos h2, if_pos h2, h3, h4, h2]
    unfold validV
    rw [if_neg (by decide), if_pos rfl]
    simp [h5]
  · rw [if_neg h2, if_neg h2, (read_show v.f0 v.f1 v.f2 v.f3 hv hw.1 hw.2).1]
    simp
theorem wr_size (v : SW) (hv : okW v = true) (hw : wfW v) : (wrS v).size ≤ 256 := by
  unfold wrS
  by_cases h2 : v.f0 = 2
  · rw [if_pos h2]; exact okW_size hv
  · rw [if_neg h2]
    unfold showV
    have hv2 : validV v.f0 v.f1 v.f2 v.f3 = true := hv
    rw [hv2, if_neg (by decide), if_neg h2]
    by_cases h1 : v.f0 = 1
    · rw [if_pos h1]
      have := Lib.itoa_length_le v.f1 hw.1 hw.2
      show (Lib.itoa v.f1).toArray.size ≤ 256
      simp
      omega
    · rw [if_neg h1]
      cases v.f3 <;> decide
theorem cells_vals : ∀ (at' : List SA) (vals : List SW), vals.length = at'.length → (∀ v ∈ vals, wfW v) → (cellsL at' vals).2 = 0 → valsL at' (cellsL at' vals).1 = some vals ∧ kindsOk at' ∧ (cellsL at' vals).1.length = at'.length ∧ ∀ s ∈ (cellsL at' vals).1, s.size ≤ 256 := by
  intro at'
  induction at' with
  | nil =>
    intro vals hl hw h
    obtain rfl := List.eq_nil_of_length_eq_zero hl
    refine ⟨rfl, ?_, rfl, ?_⟩
    · intro a ha; exact absurd ha (by simp)
    · intro s hs; exact absurd hs (by simp [cellsL])
  | cons a aa ih =>
    intro vals hl hw h
    cases vals with
    | nil => simp at hl
    | cons v vs =>
      unfold cellsL at h ⊢
      by_cases h1 : okW v = true
      · rw [if_pos h1] at h ⊢
        by_cases h2 : v.f0 = a.f1
        · rw [if_pos h2] at h ⊢
          by_cases h3 : (cellsL aa vs).2 = 0
          · rw [if_pos h3]
            obtain ⟨i1, i2, i3, i4⟩ := ih vs (by simpa using hl) (fun x hx => hw x (List.mem_cons_of_mem _ hx)) h3
            have hr := rd_wr v h1 (hw v List.mem_cons_self)
            refine ⟨?_, ?_, ?_, ?_⟩
            · show valsL (a :: aa) (wrS v :: (cellsL aa vs).1) = _
              unfold valsL
              rw [← h2, hr, if_pos rfl, i1]
              rfl
            · intro x hx
              rcases List.mem_cons.1 hx with rfl | hx
              · rw [← h2]; exact okW_kind h1
              · exact i2 x hx
            · show (wrS v :: (cellsL aa vs).1).length = _
              rw [List.length_cons, List.length_cons, i3]
            · intro s hs
              rcases List.mem_cons.1 hs with rfl | hs
              · exact wr_size v h1 (hw v List.mem_cons_self)
              · exact i4 s hs
          · rw [if_neg h3] at h; exact absurd h h3
        · rw [if_neg h2] at h; cases h
      · rw [if_neg h1] at h; cases h
theorem vals_cells : ∀ (at' : List SA) (cs : List ByteArray) (vals : List SW), cs.length = at'.length → kindsOk at' → valsL at' cs = some vals → cellsL at' vals = (cs, 0) ∧ vals.length = at'.length ∧ ∀ v ∈ vals, okW v = true ∧ wfW v := by
  intro at'
  induction at' with
  | nil =>
    intro cs vals hl hk h
    obtain rfl := List.eq_nil_of_length_eq_zero hl
    unfold valsL at h
    obtain rfl := Option.some.inj h
    exact ⟨rfl, rfl, fun v hv => absurd hv (by simp)⟩
  | cons a aa ih =>
    intro cs vals hl hk h
    cases cs with
    | nil => simp at hl
    | cons c cs =>
      unfold valsL at h
      by_cases h1 : (rdS a.f1 c).2.2.2.2 = true
      · rw [if_pos h1] at h
        obtain ⟨vs, h2, h3⟩ := Option.map_eq_some_iff.1 h
        obtain ⟨i1, i2, i3⟩ := ih cs vs (by simpa using hl) (fun x hx => hk x (List.mem_cons_of_mem _ hx)) h2
        subst h3
        have key : okW (valS (rdS a.f1 c)) = true ∧ wfW (valS (rdS a.f1 c)) ∧ (valS (rdS a.f1 c)).f0 = a.f1 ∧ wrS (valS (rdS a.f1 c)) = c := by
          unfold rdS at h1 ⊢
          by_cases h4 : a.f1 = 2
          · rw [if_pos h4] at h1 ⊢
            exact ⟨h1, ⟨by show (-9223372036854775808 : Int) ≤ 0; omega, by show (0 : Int) ≤ 9223372036854775807; omega⟩, h4.symm, by unfold wrS valS; rw [if_pos rfl]⟩
          · rw [if_neg h4] at h1 ⊢
            rw [Bool.and_eq_true, beq_iff_eq, beq_iff_eq] at h1
            obtain ⟨e1, e2, e3⟩ := read_ok h1.1
            refine ⟨e2, e3, h1.2, ?_⟩
            unfold wrS valS
            rw [if_neg (by show ¬ (readP c.data.toList).1 = 2; rw [h1.2]; exact h4)]
            show (showV _ _ _ _).1 = c
            rw [e1]; exact B_of c
        obtain ⟨k1, k2, k3, k4⟩ := key
        refine ⟨?_, by simp [i2], ?_⟩
        · unfold cellsL
          rw [if_pos k1, if_pos k3, i1, if_pos rfl, k4]
        · intro v hv
          rcases List.mem_cons.1 hv with rfl | hv
          · exact ⟨k1, k2⟩
          · exact i3 v hv
      · rw [if_neg h1] at h; cases h
theorem time_ok (tm : Int) : validV 1 tm ⟨#[]⟩ false = true := by unfold validV; rw [if_pos rfl, show (⟨#[]⟩ : ByteArray).toList = [] from by rw [tl_data]]; rfl
/-- What csv.Row writes, csv.Event reads. -/
theorem row_event (name : ByteArray) (at' : List SA) (tm : Int) (vals : List SW) (hl : vals.length = at'.length) (hw : ∀ v ∈ vals, wfW v) (h0 : 0 ≤ tm) (h1 : tm ≤ 4611686018427387904) (h : (cellsL at' vals).2 = 0) :
    eventS name at' ((showV 1 tm ⟨#[]⟩ false).1 :: (cellsL at' vals).1) = (name, tm, vals, 0) := by
  obtain ⟨i1, i2, i3, i4⟩ := cells_vals at' vals hl hw h
  have hr := (read_show 1 tm ⟨#[]⟩ false (time_ok tm) (by omega) (by omega)).1
  unfold eventS
  rw [if_pos (by rw [List.length_cons, i3])]
  have e0 : rdOf ByteArray.empty ((showV 1 tm ⟨#[]⟩ false).1 :: (cellsL at' vals).1) 0 = (showV 1 tm ⟨#[]⟩ false).1 := rfl
  have ht : tmS ((showV 1 tm ⟨#[]⟩ false).1 :: (cellsL at' vals).1) = true := by
    unfold tmS
    rw [e0, hr]
    simp [h0, h1]
  rw [if_pos ht, if_pos i2, show ((showV 1 tm ⟨#[]⟩ false).1 :: (cellsL at' vals).1).drop 1 = (cellsL at' vals).1 from rfl, i1, e0, hr]
/-- What csv.Event reads, csv.Row writes. -/
theorem event_row (name : ByteArray) (at' : List SA) (row : List ByteArray) (h : (eventS name at' row).2.2.2 = 0) :
    (eventS name at' row).1 = name ∧ rowS name at' (eventS name at' row).1 (eventS name at' row).2.1 (eventS name at' row).2.2.1 = (row, 0) ∧ ∀ v ∈ (eventS name at' row).2.2.1, okW v = true ∧ wfW v := by
  unfold eventS at h ⊢
  by_cases h1 : row.length = at'.length + 1
  · rw [if_pos h1] at h ⊢
    by_cases h2 : tmS row = true
    · rw [if_pos h2] at h ⊢
      by_cases h3 : kindsOk at'
      · rw [if_pos h3] at h ⊢
        cases row with
        | nil => simp at h1
        | cons c cs =>
          have hd : (c :: cs).drop 1 = cs := rfl
          rw [hd] at h ⊢
          cases hv : valsL at' cs with
          | none => rw [hv] at h; cases h
          | some vals =>
            dsimp only
            obtain ⟨i1, i2, i3⟩ := vals_cells at' cs vals (by simpa using h1) h3 hv
            have e0 : rdOf ByteArray.empty (c :: cs) 0 = c := rfl
            rw [e0]
            unfold tmS at h2
            rw [e0] at h2
            dsimp only at h2
            simp only [Bool.and_eq_true, beq_iff_eq, decide_eq_true_eq] at h2
            obtain ⟨⟨g1, g2⟩, g3⟩ := h2
            obtain ⟨e1, e2, e3⟩ := read_ok g1
            refine ⟨rfl, ?_, i3⟩
            unfold rowS
            rw [if_pos rfl, if_pos g3, if_pos i2, i1, if_pos rfl]
            have e4 : (showV 1 (readP c.data.toList).2.1 ⟨#[]⟩ false).1 = c := by
              have e5 := e2
              unfold validV at e5
              rw [g2, if_pos rfl] at e5
              simp only [Bool.and_eq_true] at e5
              have e6 := empty_of e5.1
              have e7 : (readP c.data.toList).2.2.2.1 = false := by simpa using e5.2
              rw [g2, e6, e7] at e1
              rw [e1]; exact B_of c
            rw [e4]
      · rw [if_neg h3] at h; cases h
    · rw [if_neg h2] at h; cases h
  · rw [if_neg h1] at h; cases h
theorem w64n (i : Nat) (h : i ≤ 4611686018427387904) : wrap64 ((i : Int) + 1) = ((i + 1 : Nat) : Int) := by
  rw [w64 (by omega) (by omega)]; omega
theorem same_l (a b : ByteArray) (s t : Int) (vs : List SW) (hv : vs.length ≤ 4611686018427387904) : ∀ n i, i + n = vs.length → Ev (fun k => refrainlaw4_sameEvent.l0 k (i : Int) a s vs b t vs) true := by
  intro n
  induction n with
  | zero =>
    intro i hi
    refine Ev.step (f := fun _ => some true) (fun k => ?_) (Ev.now _)
    rw [refrainlaw4_sameEvent.l0, if_neg (by omega)]
  | succ n ih =>
    intro i hi
    refine Ev.step (fun k => ?_) (ih (i + 1) (by omega))
    rw [refrainlaw4_sameEvent.l0, if_pos (by omega), if_pos (by omega), if_pos (by omega), if_neg (by simp), w64n i (by omega)]
/-- An event is the same as one of the same time and values, whose type's name has the same bytes. -/
theorem same_event (a b : ByteArray) (s : Int) (vs : List SW) (hv : vs.length ≤ 4611686018427387904) (h : a.toList = b.toList) : Ev (fun k => refrainlaw4_sameEvent.f k a s vs b s vs) true := by
  refine Ev.congr (f := fun k => refrainlaw4_sameEvent.j0 k false a s vs b s vs) (fun k => ?_) ?_
  · unfold refrainlaw4_sameEvent.f
    rw [if_pos h, if_pos rfl, show ((vs.length : Int) != (vs.length : Int)) = false from bne_self_eq_false _]
  · refine Ev.step (fun k => ?_) (same_l a b s s vs hv vs.length 0 (by omega))
    rw [refrainlaw4_sameEvent.j0, if_neg (by decide)]
    rfl
end Go.Proofs.YtpkbhfdfgapmlaaGreatDoor.Pv
end

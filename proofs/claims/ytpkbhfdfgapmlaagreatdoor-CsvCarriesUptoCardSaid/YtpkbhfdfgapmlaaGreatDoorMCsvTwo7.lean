/-
Part 7 of the proof of the law CsvTwo: texts Prx16.
-/
import Derived.Test.YtpkbhfdfgapmlaaGreatDoorMCsvTwo0
import Derived.Test.YtpkbhfdfgapmlaaGreatDoorMCsvTwo1
import Derived.Test.YtpkbhfdfgapmlaaGreatDoorMCsvTwo2
import Derived.Test.YtpkbhfdfgapmlaaGreatDoorMCsvTwo6
/-! ## text Prx16 -/
section
namespace Go.Proofs.YtpkbhfdfgapmlaaGreatDoor.Pr
open Go.RowKit Go.Proofs.YtpkbhfdfgapmlaaGreatDoorW.PrintWords Go.Proofs.YtpkbhfdfgapmlaaGreatDoorW.PrintLast Go.Proofs.YtpkbhfdfgapmlaaGreatDoorW.PrintMore
attribute [local go_sem] max2_int min2_int max_two min_two max_three min_three max_four min_four   -- for this text's walks alone
attribute [local go_sem high] Go.Proofs.YtpkbhfdfgapmlaaGreatDoor.isSome_setCell
set_option maxRecDepth 100000
set_option linter.unusedVariables false
set_option linter.unusedSimpArgs false

/-! ### refrainlaw4_CsvCarries: function 4 -/
mutual
def refrainlaw4_CsvCarries.j0 : Nat → List ByteArray → Bool → ByteArray → List (S30) → ByteArray → Int → List (S43) → Option (Bool)
  | 0, _, _, _, _, _, _, _ => none
  | k + 1, x2, x8, x346000, x346001, x347000, x347001, x347002 => refrainlaw4_CsvCarries.l0 k x2 x8 0 x346000 x346001 x347000 x347001 x347002
def refrainlaw4_CsvCarries.j2 : Nat → List ByteArray → Bool → ByteArray → List (S30) → ByteArray → Int → List (S43) → Option (Bool)
  | 0, _, _, _, _, _, _, _ => none
  | k + 1, x2, x8, x346000, x346001, x347000, x347001, x347002 => (csv_Row.f x346000 x346001 x347000 x347001 x347002).bind fun bt352 => (if (x8 != (bt352.2 == 0)) = true then (some false) else (if x8 = true then ((csv_Join.f (([bt352.1] : List (List ByteArray)))).bind fun bt359 => (if bt359.2 = 0 then ((csv_Split.f bt359.1).bind fun bt361 => (if bt361.2.2 = 0 then (if (bt361.1.length : Int) = 1 then (if 0 < (bt361.1.length : Int) then ((refrainlaw4_sameRow.f k (rd_L1 bt361.1 0) bt352.1).bind fun t367 => (refrainlaw4_CsvCarries.j3 k x2 bt361.1 (!t367) x346000 x346001 x347000 x347001 x347002)) else (none)) else (refrainlaw4_CsvCarries.j3 k x2 bt361.1 true x346000 x346001 x347000 x347001 x347002)) else (refrainlaw4_CsvCarries.j3 k x2 bt361.1 true x346000 x346001 x347000 x347001 x347002))) else (if bt359.2 = 2 then (some (decide ((x347002.length : Int) > 16))) else (some false)))) else (refrainlaw4_CsvCarries.j4 k x2 x346000 x346001)))
def refrainlaw4_CsvCarries.j4 : Nat → List ByteArray → ByteArray → List (S30) → Option (Bool)
  | 0, _, _, _ => none
  | k + 1, x2, x346000, x346001 => (csv_Event.f x346000 x346001 x2).bind fun bt377 => (if bt377.2.2.2 = 0 then ((csv_Row.f x346000 x346001 bt377.1 bt377.2.1 bt377.2.2.1).bind fun bt384 => (if bt384.2 = 0 then ((refrainlaw4_sameRow.f k bt384.1 x2).bind fun t388 => (some t388)) else (some false))) else (some true))
def refrainlaw4_CsvCarries.j3 : Nat → List ByteArray → List (List ByteArray) → Bool → ByteArray → List (S30) → ByteArray → Int → List (S43) → Option (Bool)
  | 0, _, _, _, _, _, _, _, _ => none
  | k + 1, x2, x15, x129, x346000, x346001, x347000, x347001, x347002 => if x129 = true then (some false) else (if 0 < (x15.length : Int) then ((csv_Event.f x346000 x346001 (rd_L1 x15 0)).bind fun bt369 => (if bt369.2.2.2 = 0 then ((refrainlaw4_sameEvent.f k bt369.1 bt369.2.1 bt369.2.2.1 x347000 x347001 x347002).bind fun t376 => (if t376 = true then (refrainlaw4_CsvCarries.j4 k x2 x346000 x346001) else (some false))) else (some false))) else (none))
def refrainlaw4_CsvCarries.l0 : Nat → List ByteArray → Bool → Int → ByteArray → List (S30) → ByteArray → Int → List (S43) → Option (Bool)
  | 0, _, _, _, _, _, _, _, _ => none
  | k + 1, x2, x8, x9, x346000, x346001, x347000, x347001, x347002 => if x9 < (x347002.length : Int) then (if x8 = true then (if 0 ≤ x9 then ((value_Valid.f ((rd_T43 x347002 x9).f0) ((rd_T43 x347002 x9).f1) ((rd_T43 x347002 x9).f2) ((rd_T43 x347002 x9).f3)).bind fun t349 => (if t349 = true then (if x9 < (x346001.length : Int) then (refrainlaw4_CsvCarries.l0 k x2 (((rd_T43 x347002 x9).f0) == ((rd_T30 x346001 x9).f1)) (wrap64 (x9 + 1)) x346000 x346001 x347000 x347001 x347002) else (none)) else (refrainlaw4_CsvCarries.l0 k x2 false (wrap64 (x9 + 1)) x346000 x346001 x347000 x347001 x347002))) else (none)) else (refrainlaw4_CsvCarries.j2 k x2 x8 x346000 x346001 x347000 x347001 x347002)) else (refrainlaw4_CsvCarries.j2 k x2 x8 x346000 x346001 x347000 x347001 x347002)
end
def refrainlaw4_CsvCarries.f (k : Nat) (a0_0 : ByteArray) (l0_1 : List (S30)) (a1_0 : ByteArray) (a1_1 : Int) (l1_2 : List (S43)) (l2 : List ByteArray) : Option (Bool) := (refrainlaw4_begun.f).bind fun t347 => (if t347 = true then (if a1_0.toList = a0_0.toList then (if a1_1 ≥ 0 then (if a1_1 ≤ 4611686018427387904 then (refrainlaw4_CsvCarries.j0 k l2 ((l1_2.length : Int) == (l0_1.length : Int)) a0_0 l0_1 a1_0 a1_1 l1_2) else (refrainlaw4_CsvCarries.j0 k l2 false a0_0 l0_1 a1_0 a1_1 l1_2)) else (refrainlaw4_CsvCarries.j0 k l2 false a0_0 l0_1 a1_0 a1_1 l1_2)) else (refrainlaw4_CsvCarries.j0 k l2 false a0_0 l0_1 a1_0 a1_1 l1_2)) else (some false))
set_option maxRecDepth 100000 in
theorem refrainlaw4_CsvCarries.j0_zero : ∀ y0 y1 y2 y3 y4 y5 y6, refrainlaw4_CsvCarries.j0 0 y0 y1 y2 y3 y4 y5 y6 = none := fun _ _ _ _ _ _ _ => rfl
set_option maxRecDepth 100000 in
theorem refrainlaw4_CsvCarries.j2_zero : ∀ y0 y1 y2 y3 y4 y5 y6, refrainlaw4_CsvCarries.j2 0 y0 y1 y2 y3 y4 y5 y6 = none := fun _ _ _ _ _ _ _ => rfl
set_option maxRecDepth 100000 in
theorem refrainlaw4_CsvCarries.j4_zero : ∀ y0 y1 y2, refrainlaw4_CsvCarries.j4 0 y0 y1 y2 = none := fun _ _ _ => rfl
set_option maxRecDepth 100000 in
theorem refrainlaw4_CsvCarries.j3_zero : ∀ y0 y1 y2 y3 y4 y5 y6 y7, refrainlaw4_CsvCarries.j3 0 y0 y1 y2 y3 y4 y5 y6 y7 = none := fun _ _ _ _ _ _ _ _ => rfl
set_option maxRecDepth 100000 in
theorem refrainlaw4_CsvCarries.l0_zero : ∀ y0 y1 y2 y3 y4 y5 y6 y7, refrainlaw4_CsvCarries.l0 0 y0 y1 y2 y3 y4 y5 y6 y7 = none := fun _ _ _ _ _ _ _ _ => rfl
set_option maxRecDepth 100000 in
theorem refrainlaw4_CsvCarries.mono_l : ∀ k, (∀ y0 y1 y2 y3 y4 y5 y6, LeO (refrainlaw4_CsvCarries.j0 k y0 y1 y2 y3 y4 y5 y6) (refrainlaw4_CsvCarries.j0 (k + 1) y0 y1 y2 y3 y4 y5 y6)) ∧ (∀ y0 y1 y2 y3 y4 y5 y6, LeO (refrainlaw4_CsvCarries.j2 k y0 y1 y2 y3 y4 y5 y6) (refrainlaw4_CsvCarries.j2 (k + 1) y0 y1 y2 y3 y4 y5 y6)) ∧ (∀ y0 y1 y2, LeO (refrainlaw4_CsvCarries.j4 k y0 y1 y2) (refrainlaw4_CsvCarries.j4 (k + 1) y0 y1 y2)) ∧ (∀ y0 y1 y2 y3 y4 y5 y6 y7, LeO (refrainlaw4_CsvCarries.j3 k y0 y1 y2 y3 y4 y5 y6 y7) (refrainlaw4_CsvCarries.j3 (k + 1) y0 y1 y2 y3 y4 y5 y6 y7)) ∧ (∀ y0 y1 y2 y3 y4 y5 y6 y7, LeO (refrainlaw4_CsvCarries.l0 k y0 y1 y2 y3 y4 y5 y6 y7) (refrainlaw4_CsvCarries.l0 (k + 1) y0 y1 y2 y3 y4 y5 y6 y7))
  | 0 => ⟨fun _ _ _ _ _ _ _ r h => by (unfold refrainlaw4_CsvCarries.j0 at h; cases h), fun _ _ _ _ _ _ _ r h => by (unfold refrainlaw4_CsvCarries.j2 at h; cases h), fun _ _ _ r h => by (unfold refrainlaw4_CsvCarries.j4 at h; cases h), fun _ _ _ _ _ _ _ _ r h => by (unfold refrainlaw4_CsvCarries.j3 at h; cases h), fun _ _ _ _ _ _ _ _ r h => by (unfold refrainlaw4_CsvCarries.l0 at h; cases h)⟩
  | k + 1 => by
    obtain ⟨ih0, ih1, ih2, ih3, ih4⟩ := refrainlaw4_CsvCarries.mono_l k
    refine ⟨?_, ?_, ?_, ?_, ?_⟩
    · intro y0 y1 y2 y3 y4 y5 y6
      unfold refrainlaw4_CsvCarries.j0
      repeat' first
      | (with_reducible exact ih0 _ _ _ _ _ _ _)
      | (with_reducible exact ih1 _ _ _ _ _ _ _)
      | (with_reducible exact ih2 _ _ _)
      | (with_reducible exact ih3 _ _ _ _ _ _ _ _)
      | (with_reducible exact ih4 _ _ _ _ _ _ _ _)
      | (with_reducible exact refrainlaw4_sameEvent.mono _ _ _ _ _ _ _)
      | (with_reducible exact refrainlaw4_sameRow.mono _ _ _)
      | (with_reducible exact LeO.refl _)
      | (with_reducible exact LeO.none _)
      | (with_reducible refine LeO.ite ?_ ?_)
      | (with_reducible refine LeO.bind ?_ (fun _ => ?_))
      | exact ih0 _ _ _ _ _ _ _
      | exact ih1 _ _ _ _ _ _ _
      | exact ih2 _ _ _
      | exact ih3 _ _ _ _ _ _ _ _
      | exact ih4 _ _ _ _ _ _ _ _
      | exact refrainlaw4_sameEvent.mono _ _ _ _ _ _ _
      | exact refrainlaw4_sameRow.mono _ _ _
      | exact LeO.none _
      | refine LeO.ite ?_ ?_
      | refine LeO.bind ?_ (fun _ => ?_)
    · intro y0 y1 y2 y3 y4 y5 y6
      unfold refrainlaw4_CsvCarries.j2
      repeat' first
      | (with_reducible exact ih0 _ _ _ _ _ _ _)
      | (with_reducible exact ih1 _ _ _ _ _ _ _)
      | (with_reducible exact ih2 _ _ _)
      | (with_reducible exact ih3 _ _ _ _ _ _ _ _)
      | (with_reducible exact ih4 _ _ _ _ _ _ _ _)
      | (with_reducible exact refrainlaw4_sameEvent.mono _ _ _ _ _ _ _)
      | (with_reducible exact refrainlaw4_sameRow.mono _ _ _)
      | (with_reducible exact LeO.refl _)
      | (with_reducible exact LeO.none _)
      | (with_reducible refine LeO.ite ?_ ?_)
      | (with_reducible refine LeO.bind ?_ (fun _ => ?_))
      | exact ih0 _ _ _ _ _ _ _
      | exact ih1 _ _ _ _ _ _ _
      | exact ih2 _ _ _
      | exact ih3 _ _ _ _ _ _ _ _
      | exact ih4 _ _ _ _ _ _ _ _
      | exact refrainlaw4_sameEvent.mono _ _ _ _ _ _ _
      | exact refrainlaw4_sameRow.mono _ _ _
      | exact LeO.none _
      | refine LeO.ite ?_ ?_
      | refine LeO.bind ?_ (fun _ => ?_)
    · intro y0 y1 y2
      unfold refrainlaw4_CsvCarries.j4
      repeat' first
      | (with_reducible exact ih0 _ _ _ _ _ _ _)
      | (with_reducible exact ih1 _ _ _ _ _ _ _)
      | (with_reducible exact ih2 _ _ _)
      | (with_reducible exact ih3 _ _ _ _ _ _ _ _)
      | (with_reducible exact ih4 _ _ _ _ _ _ _ _)
      | (with_reducible exact refrainlaw4_sameEvent.mono _ _ _ _ _ _ _)
      | (with_reducible exact refrainlaw4_sameRow.mono _ _ _)
      | (with_reducible exact LeO.refl _)
      | (with_reducible exact LeO.none _)
      | (with_reducible refine LeO.ite ?_ ?_)
      | (with_reducible refine LeO.bind ?_ (fun _ => ?_))
      | exact ih0 _ _ _ _ _ _ _
      | exact ih1 _ _ _ _ _ _ _
      | exact ih2 _ _ _
      | exact ih3 _ _ _ _ _ _ _ _
      | exact ih4 _ _ _ _ _ _ _ _
      | exact refrainlaw4_sameEvent.mono _ _ _ _ _ _ _
      | exact refrainlaw4_sameRow.mono _ _ _
      | exact LeO.none _
      | refine LeO.ite ?_ ?_
      | refine LeO.bind ?_ (fun _ => ?_)
    · intro y0 y1 y2 y3 y4 y5 y6 y7
      unfold refrainlaw4_CsvCarries.j3
      repeat' first
      | (with_reducible exact ih0 _ _ _ _ _ _ _)
      | (with_reducible exact ih1 _ _ _ _ _ _ _)
      | (with_reducible exact ih2 _ _ _)
      | (with_reducible exact ih3 _ _ _ _ _ _ _ _)
      | (with_reducible exact ih4 _ _ _ _ _ _ _ _)
      | (with_reducible exact refrainlaw4_sameEvent.mono _ _ _ _ _ _ _)
      | (with_reducible exact refrainlaw4_sameRow.mono _ _ _)
      | (with_reducible exact LeO.refl _)
      | (with_reducible exact LeO.none _)
      | (with_reducible refine LeO.ite ?_ ?_)
      | (with_reducible refine LeO.bind ?_ (fun _ => ?_))
      | exact ih0 _ _ _ _ _ _ _
      | exact ih1 _ _ _ _ _ _ _
      | exact ih2 _ _ _
      | exact ih3 _ _ _ _ _ _ _ _
      | exact ih4 _ _ _ _ _ _ _ _
      | exact refrainlaw4_sameEvent.mono _ _ _ _ _ _ _
      | exact refrainlaw4_sameRow.mono _ _ _
      | exact LeO.none _
      | refine LeO.ite ?_ ?_
      | refine LeO.bind ?_ (fun _ => ?_)
    · intro y0 y1 y2 y3 y4 y5 y6 y7
      unfold refrainlaw4_CsvCarries.l0
      repeat' first
      | (with_reducible exact ih0 _ _ _ _ _ _ _)
      | (with_reducible exact ih1 _ _ _ _ _ _ _)
      | (with_reducible exact ih2 _ _ _)
      | (with_reducible exact ih3 _ _ _ _ _ _ _ _)
      | (with_reducible exact ih4 _ _ _ _ _ _ _ _)
      | (with_reducible exact refrainlaw4_sameEvent.mono _ _ _ _ _ _ _)
      | (with_reducible exact refrainlaw4_sameRow.mono _ _ _)
      | (with_reducible exact LeO.refl _)
      | (with_reducible exact LeO.none _)
      | (with_reducible refine LeO.ite ?_ ?_)
      | (with_reducible refine LeO.bind ?_ (fun _ => ?_))
      | exact ih0 _ _ _ _ _ _ _
      | exact ih1 _ _ _ _ _ _ _
      | exact ih2 _ _ _
      | exact ih3 _ _ _ _ _ _ _ _
      | exact ih4 _ _ _ _ _ _ _ _
      | exact refrainlaw4_sameEvent.mono _ _ _ _ _ _ _
      | exact refrainlaw4_sameRow.mono _ _ _
      | exact LeO.none _
      | refine LeO.ite ?_ ?_
      | refine LeO.bind ?_ (fun _ => ?_)
set_option maxRecDepth 100000 in
theorem refrainlaw4_CsvCarries.mono : ∀ a0 a1 a2 a3 a4 a5 k, LeO (refrainlaw4_CsvCarries.f k a0 a1 a2 a3 a4 a5) (refrainlaw4_CsvCarries.f (k + 1) a0 a1 a2 a3 a4 a5) := by
  intro a0 a1 a2 a3 a4 a5 k
  obtain ⟨ih0, ih1, ih2, ih3, ih4⟩ := refrainlaw4_CsvCarries.mono_l k
  unfold refrainlaw4_CsvCarries.f
  repeat' first
      | (with_reducible exact ih0 _ _ _ _ _ _ _)
      | (with_reducible exact ih1 _ _ _ _ _ _ _)
      | (with_reducible exact ih2 _ _ _)
      | (with_reducible exact ih3 _ _ _ _ _ _ _ _)
      | (with_reducible exact ih4 _ _ _ _ _ _ _ _)
      | (with_reducible exact refrainlaw4_sameEvent.mono _ _ _ _ _ _ _)
      | (with_reducible exact refrainlaw4_sameRow.mono _ _ _)
      | (with_reducible exact LeO.refl _)
      | (with_reducible exact LeO.none _)
      | (with_reducible refine LeO.ite ?_ ?_)
      | (with_reducible refine LeO.bind ?_ (fun _ => ?_))
      | exact ih0 _ _ _ _ _ _ _
      | exact ih1 _ _ _ _ _ _ _
      | exact ih2 _ _ _
      | exact ih3 _ _ _ _ _ _ _ _
      | exact ih4 _ _ _ _ _ _ _ _
      | exact refrainlaw4_sameEvent.mono _ _ _ _ _ _ _
      | exact refrainlaw4_sameRow.mono _ _ _
      | exact LeO.none _
      | refine LeO.ite ?_ ?_
      | refine LeO.bind ?_ (fun _ => ?_)
def refrainlaw4_CsvCarries.T9 : Bool × List (List Nat × List Nat) := (true, [([], []), ([0], [0]), ([1], [1]), ([2, 1], [1, 2]), ([1], [1]), ([3, 4, 1], [1, 3, 4]), ([5, 1], [1, 5]), ([6, 1], [1, 6]), ([1], [1]), ([8, 1], [1, 8]), ([1], [1]), ([9, 10, 1], [1, 9, 10]), ([11, 1], [1, 11]), ([12, 1], [1, 12]), ([7, 13, 1], [1, 7, 13]), ([1, 14], [1, 14]), ([15, 1, 0, 1, 2, 3, 4, 5, 6, 7, 8, 9, 10, 11, 12, 13, 14, 15], [15])])
def refrainlaw4_CsvCarries.B9 : List Nat := [0, 1, 3, 7, 3, 31, 63, 127, 3, 259, 3, 1795, 3843, 7939, 16383, 32767, 65535]
theorem refrainlaw4_CsvCarries.tab9 : rtab .any (opsOf Tryz.f4 9) = refrainlaw4_CsvCarries.T9 := by kernel_rfl
theorem refrainlaw4_CsvCarries.bits9 : waitsOk refrainlaw4_CsvCarries.T9.2 refrainlaw4_CsvCarries.B9 = true := by kernel_rfl
def refrainlaw4_CsvCarries.T20 : Bool × List (List Nat × List Nat) := (true, [([], []), ([], []), ([1], [1]), ([2], [2]), ([0, 3], [0, 3]), ([4], [4]), ([5], [5]), ([5], [5]), ([], []), ([8, 6, 4, 0, 1, 2, 3, 4, 5, 6, 8], [6, 8]), ([7, 9, 0, 1, 2, 3, 4, 5, 6, 7, 8, 9], [7])])
def refrainlaw4_CsvCarries.B20 : List Nat := [0, 0, 2, 6, 15, 31, 63, 63, 0, 383, 1023]
theorem refrainlaw4_CsvCarries.tab20 : rtab .any (opsOf Tryz.f4 20) = refrainlaw4_CsvCarries.T20 := by kernel_rfl
theorem refrainlaw4_CsvCarries.bits20 : waitsOk refrainlaw4_CsvCarries.T20.2 refrainlaw4_CsvCarries.B20 = true := by kernel_rfl
set_option maxHeartbeats 8000000 in
set_option maxRecDepth 100000 in
theorem refrainlaw4_CsvCarries.calls (k : Nat) (a0_0 : ByteArray) (A0_1 : Option Addr) (c0_1 : Nat) (l0_1 : List (S30)) (a1_0 : ByteArray) (a1_1 : Int) (A1_2 : Option Addr) (c1_2 : Nat) (l1_2 : List (S43)) (A2 : Option Addr) (c2 : Nat) (l2 : List ByteArray) (r : Bool) (w : World) (hr0_1 : Kd.C k30 w A0_1 l0_1.length l0_1) (hc0_1 : l0_1.length ≤ c0_1) (hr1_2 : Kd.C k43 w A1_2 l1_2.length l1_2) (hc1_2 : l1_2.length ≤ c1_2) (hr2 : Kd.C Kd.string w A2 l2.length l2) (hc2 : l2.length ≤ c2) (HL_LErr : Aside0 (LErr w)) (HL_LG0 : Aside0 (LG0 w)) (HL_LMax : Aside0 (LMax w)) (HL_LSyn : Aside0 (LSyn w)) (h : refrainlaw4_CsvCarries.f k a0_0 l0_1 a1_0 a1_1 l1_2 l2 = some r) :
    Calls Tryz.prog 4 #[.agg #[.string a0_0, .slice A0_1 l0_1.length c0_1], .agg #[.string a1_0, .int .i64 a1_1, .slice A1_2 l1_2.length c1_2], .slice A2 l2.length c2] w fun e w' => e = .returned (.bool r) ∧ Below w.heap.size w w' := by
  have hu24 := Tryz.underlying24
  have hu35 := Tryz.underlying35
  have hu43 := Tryz.underlying43
  have HR0_1 := Aside0.mk hr0_1
  have HC0_1 := Aside0.mk hc0_1
  clear hr0_1 hc0_1
  have HR1_2 := Aside0.mk hr1_2
  have HC1_2 := Aside0.mk hc1_2
  clear hr1_2 hc1_2
  have HR2 := Aside0.mk hr2
  have HC2 := Aside0.mk hc2
  clear hr2 hc2
  have HB := Aside0.mk (Below.refl w.heap.size w)
  have H : ((refrainlaw4_begun.f).bind fun t347 => (if t347 = true then (if a1_0.toList = a0_0.toList then (if a1_1 ≥ 0 then (if a1_1 ≤ 4611686018427387904 then (refrainlaw4_CsvCarries.j0 k l2 ((l1_2.length : Int) == (l0_1.length : Int)) a0_0 l0_1 a1_0 a1_1 l1_2) else (refrainlaw4_CsvCarries.j0 k l2 false a0_0 l0_1 a1_0 a1_1 l1_2)) else (refrainlaw4_CsvCarries.j0 k l2 false a0_0 l0_1 a1_0 a1_1 l1_2)) else (refrainlaw4_CsvCarries.j0 k l2 false a0_0 l0_1 a1_0 a1_1 l1_2)) else (some false))) = some r := h
  clear h
  replace H := Option.bind_eq_some_iff.mp H
  obtain ⟨t347, A40, H⟩ := H
  replace H : (if t347 = true then (if a1_0.toList = a0_0.toList then (if a1_1 ≥ 0 then (if a1_1 ≤ 4611686018427387904 then (refrainlaw4_CsvCarries.j0 k l2 ((l1_2.length : Int) == (l0_1.length : Int)) a0_0 l0_1 a1_0 a1_1 l1_2) else (refrainlaw4_CsvCarries.j0 k l2 false a0_0 l0_1 a1_0 a1_1 l1_2)) else (refrainlaw4_CsvCarries.j0 k l2 false a0_0 l0_1 a1_0 a1_1 l1_2)) else (refrainlaw4_CsvCarries.j0 k l2 false a0_0 l0_1 a1_0 a1_1 l1_2)) else (some false)) = some r := H
  have A4 := Aside0.mk A40
  clear A40
  by_cases c5 : t347 = true
  · subst c5
    have H1 : (if a1_0.toList = a0_0.toList then (if a1_1 ≥ 0 then (if a1_1 ≤ 4611686018427387904 then (refrainlaw4_CsvCarries.j0 k l2 ((l1_2.length : Int) == (l0_1.length : Int)) a0_0 l0_1 a1_0 a1_1 l1_2) else (refrainlaw4_CsvCarries.j0 k l2 false a0_0 l0_1 a1_0 a1_1 l1_2)) else (refrainlaw4_CsvCarries.j0 k l2 false a0_0 l0_1 a1_0 a1_1 l1_2)) else (refrainlaw4_CsvCarries.j0 k l2 false a0_0 l0_1 a1_0 a1_1 l1_2)) = some r := by rw [if_pos rfl] at H; exact H
    clear H
    have H := H1
    clear H1
    have HC6 := Aside0.mk H
    clear H
    go_enter Tryz.func4, Tryz.ntmps4
    go_upto_region 4 with (first | ((with_reducible refine gate_dst (N := 3) rfl ?_); (try (refine gate_guard (by rfl) ?_; dsimp only)); refine box_event ?hg (N := 3) ?hd (cs := #[.string a0_0, .slice A0_1 l0_1.length c0_1]) (t := 24) ?hr ?_; (case hd => rfl); (case hg => rfl); (case hr => first | (go_simp; done) | (go_simp; rfl)); intro gb345 hg w7 hbox hb; have BK345 := Aside0.mk hbox; have GW345 := geA hg HB; have GE345 := geA hg HB; replace HB := bsA HB hb; clear hb hbox hg) | ((with_reducible refine gate_dst (N := 4) rfl ?_); (try (refine gate_guard (by rfl) ?_; dsimp only)); refine box_event ?hg (N := 4) ?hd (cs := #[.string a1_0, .int .i64 a1_1, .slice A1_2 l1_2.length c1_2]) (t := 35) ?hr ?_; (case hd => rfl); (case hg => rfl); (case hr => first | (go_simp; done) | (go_simp; rfl)); intro gb346 hg w8 hbox hb; have BK346 := Aside0.mk hbox; have GW346 := geA hg HB; have GE346 := geA hg HB; have NB345_346 := neA hg BK345; have NB346_345 := neB hg BK345; replace BK345 := bbA BK345 hb; replace HB := bsA HB hb; clear hb hbox hg) | ((with_reducible refine gate_callee (f := 7) rfl ?_); refine goesT (some 23) Tryz.func7 #[] ?_; (with_reducible refine (refrainlaw4_begun.calls  true _ ?side1 A4.out).mono ?_); (case side1 => first | (with_reducible exact HL_LMax) | exact ⟨LMax.below HL_LMax.out (hbT HB.out)⟩); rintro e w9 ⟨rfl, hb⟩; refine ⟨_, rfl, ?_⟩; replace BK345 := bbA BK345 hb; replace BK346 := bbA BK346 hb; replace HB := bsA HB hb; (try clear hb); (try clear hb2); (try clear hk); (try clear hi)))
    (try simp only [Act.put, List.setIfInBounds_toArray, List.set_cons_zero, List.set_cons_succ])
    go_cut [8] (fun v8 wc => ∃ (kq : Nat) (x8_5 : Bool), v8 = .bool x8_5 ∧ Aside0 (refrainlaw4_CsvCarries.j0 kq l2 x8_5 a0_0 l0_1 a1_0 a1_1 l1_2 = some r) ∧ Aside0 (kq ≤ k) ∧ Aside0 (wc.heap[gb345]? = some (.cells #[.string a0_0, (.slice A0_1 l0_1.length c0_1)] 24 (0, 0))) ∧ Aside0 (wc.heap[gb346]? = some (.cells #[.string a1_0, .int .i64 a1_1, (.slice A1_2 l1_2.length c1_2)] 35 (0, 0))) ∧ Aside0 (Below w.heap.size w wc))
    case first =>
      have H := HC6.out
      clear HC6
      by_cases c10 : a1_0.toList = a0_0.toList
      · rw [if_pos c10] at H
        have c10b0 : (a1_0.toList == a0_0.toList) = true := beq_iff_eq.mpr c10
        have c10b1 : (a1_0.toList != a0_0.toList) = false := bne_eq_false_iff_eq.mpr c10
        clear c10
        (first | rw [c10b0] | (simp only [i64_w, i32_w, IntKind.wrap_u8, IntKind.wrap_u16, IntKind.wrap_u32]; rw [c10b0]) | skip)
        by_cases c11 : a1_1 ≥ 0
        · rw [if_pos c11] at H
          have c11b0 : decide (0 ≤ a1_1) = true := decide_eq_true c11
          clear c11
          by_cases c12 : a1_1 ≤ 4611686018427387904
          · rw [if_pos c12] at H
            have c12b0 : decide (a1_1 ≤ 4611686018427387904) = true := decide_eq_true c12
            clear c12
            have H' := Aside0.mk H
            clear H; have hnb13 := NB346_345.out
            have hnc13 := NB345_346.out; have hcz14_0 : w9.cell? ⟨gb346, 0, none⟩ = some (.string a1_0) := (blk_cell BK346.out 0).trans rfl; have hcz14_1 : w9.cell? ⟨gb346, 1, none⟩ = some (.int .i64 a1_1) := (blk_cell BK346.out 1).trans rfl; have hcz14_2 : w9.cell? ⟨gb346, 2, none⟩ = some (.slice A1_2 l1_2.length c1_2) := (blk_cell BK346.out 2).trans rfl; have hfz14_0 := blk_frozen BK346.out 0; have hfz14_1 := blk_frozen BK346.out 1; have hfz14_2 := blk_frozen BK346.out 2; have hcz15_0 : w9.cell? ⟨gb345, 0, none⟩ = some (.string a0_0) := (blk_cell BK345.out 0).trans rfl; have hcz15_1 : w9.cell? ⟨gb345, 1, none⟩ = some (.slice A0_1 l0_1.length c0_1) := (blk_cell BK345.out 1).trans rfl; have hfz15_0 := blk_frozen BK345.out 0; have hfz15_1 := blk_frozen BK345.out 1
            go_wp2
            go_meet
            case rel => exact ⟨_, (((l1_2.length : Int) == (l0_1.length : Int))), (by first | rfl | (simp; done) | (simp [*]; done) | (simp; unfold wrap64; omega) | (congr 1; (try rw [Bool.eq_iff_iff]); simp [List.isEmpty_iff]; done)), H', ⟨by first | omega | exact Nat.le_refl _⟩, ⟨bkT BK345.out⟩, ⟨bkT BK346.out⟩, ⟨hbT HB.out⟩⟩
          · rw [if_neg c12] at H
            have c12b0 : decide (a1_1 ≤ 4611686018427387904) = false := decide_eq_false c12
            clear c12
            have H' := Aside0.mk H
            clear H; have hnb16 := NB346_345.out
            have hnc16 := NB345_346.out; have hcz17_0 : w9.cell? ⟨gb346, 0, none⟩ = some (.string a1_0) := (blk_cell BK346.out 0).trans rfl; have hcz17_1 : w9.cell? ⟨gb346, 1, none⟩ = some (.int .i64 a1_1) := (blk_cell BK346.out 1).trans rfl; have hcz17_2 : w9.cell? ⟨gb346, 2, none⟩ = some (.slice A1_2 l1_2.length c1_2) := (blk_cell BK346.out 2).trans rfl; have hfz17_0 := blk_frozen BK346.out 0; have hfz17_1 := blk_frozen BK346.out 1; have hfz17_2 := blk_frozen BK346.out 2; have hcz18_0 : w9.cell? ⟨gb345, 0, none⟩ = some (.string a0_0) := (blk_cell BK345.out 0).trans rfl; have hcz18_1 : w9.cell? ⟨gb345, 1, none⟩ = some (.slice A0_1 l0_1.length c0_1) := (blk_cell BK345.out 1).trans rfl; have hfz18_0 := blk_frozen BK345.out 0; have hfz18_1 := blk_frozen BK345.out 1
            go_wp2
            go_meet
            case rel => exact ⟨_, (false), (by first | rfl | (simp; done) | (simp [*]; done) | (simp; unfold wrap64; omega) | (congr 1; (try rw [Bool.eq_iff_iff]); simp [List.isEmpty_iff]; done)), H', ⟨by first | omega | exact Nat.le_refl _⟩, ⟨bkT BK345.out⟩, ⟨bkT BK346.out⟩, ⟨hbT HB.out⟩⟩
        · rw [if_neg c11] at H
          have c11b0 : decide (0 ≤ a1_1) = false := decide_eq_false c11
          clear c11
          have H' := Aside0.mk H
          clear H; have hnb19 := NB346_345.out
          have hnc19 := NB345_346.out; have hcz20_0 : w9.cell? ⟨gb346, 0, none⟩ = some (.string a1_0) := (blk_cell BK346.out 0).trans rfl; have hcz20_1 : w9.cell? ⟨gb346, 1, none⟩ = some (.int .i64 a1_1) := (blk_cell BK346.out 1).trans rfl; have hcz20_2 : w9.cell? ⟨gb346, 2, none⟩ = some (.slice A1_2 l1_2.length c1_2) := (blk_cell BK346.out 2).trans rfl; have hfz20_0 := blk_frozen BK346.out 0; have hfz20_1 := blk_frozen BK346.out 1; have hfz20_2 := blk_frozen BK346.out 2; have hcz21_0 : w9.cell? ⟨gb345, 0, none⟩ = some (.string a0_0) := (blk_cell BK345.out 0).trans rfl; have hcz21_1 : w9.cell? ⟨gb345, 1, none⟩ = some (.slice A0_1 l0_1.length c0_1) := (blk_cell BK345.out 1).trans rfl; have hfz21_0 := blk_frozen BK345.out 0; have hfz21_1 := blk_frozen BK345.out 1
          go_wp2
          go_meet
          case rel => exact ⟨_, (false), (by first | rfl | (simp; done) | (simp [*]; done) | (simp; unfold wrap64; omega) | (congr 1; (try rw [Bool.eq_iff_iff]); simp [List.isEmpty_iff]; done)), H', ⟨by first | omega | exact Nat.le_refl _⟩, ⟨bkT BK345.out⟩, ⟨bkT BK346.out⟩, ⟨hbT HB.out⟩⟩
      · rw [if_neg c10] at H
        have c10b0 : (a1_0.toList == a0_0.toList) = false := beq_eq_false_iff_ne.mpr c10
        have c10b1 : (a1_0.toList != a0_0.toList) = true := bne_iff_ne.mpr c10
        (first | rw [c10b0] | (simp only [i64_w, i32_w, IntKind.wrap_u8, IntKind.wrap_u16, IntKind.wrap_u32]; rw [c10b0]) | skip)
        have H' := Aside0.mk H
        clear H; have hnb22 := NB346_345.out
        have hnc22 := NB345_346.out; have hcz23_0 : w9.cell? ⟨gb346, 0, none⟩ = some (.string a1_0) := (blk_cell BK346.out 0).trans rfl; have hcz23_1 : w9.cell? ⟨gb346, 1, none⟩ = some (.int .i64 a1_1) := (blk_cell BK346.out 1).trans rfl; have hcz23_2 : w9.cell? ⟨gb346, 2, none⟩ = some (.slice A1_2 l1_2.length c1_2) := (blk_cell BK346.out 2).trans rfl; have hfz23_0 := blk_frozen BK346.out 0; have hfz23_1 := blk_frozen BK346.out 1; have hfz23_2 := blk_frozen BK346.out 2; have hcz24_0 : w9.cell? ⟨gb345, 0, none⟩ = some (.string a0_0) := (blk_cell BK345.out 0).trans rfl; have hcz24_1 : w9.cell? ⟨gb345, 1, none⟩ = some (.slice A0_1 l0_1.length c0_1) := (blk_cell BK345.out 1).trans rfl; have hfz24_0 := blk_frozen BK345.out 0; have hfz24_1 := blk_frozen BK345.out 1
        go_wp2
        go_meet
        case rel => exact ⟨_, (false), (by first | rfl | (simp; done) | (simp [*]; done) | (simp; unfold wrap64; omega) | (congr 1; (try rw [Bool.eq_iff_iff]); simp [List.isEmpty_iff]; done)), H', ⟨by first | omega | exact Nat.le_refl _⟩, ⟨bkT BK345.out⟩, ⟨bkT BK346.out⟩, ⟨hbT HB.out⟩⟩
    case rest =>
      clear HC6
      try clear c1
      try clear c2
      try clear p2
      try clear c4
      try clear c5
      try clear c7
      try clear c10
      try clear c10b0
      try clear c10b1
      try clear c11
      try clear c11b0
      try clear c12
      try clear c12b0
      try clear c13
      try clear c16
      try clear c19
      try clear c22
      try clear hcz14_0 hcz14_1 hcz14_2
      try clear hcz15_0 hcz15_1
      try clear hcz17_0 hcz17_1 hcz17_2
      try clear hcz18_0 hcz18_1
      try clear hcz20_0 hcz20_1 hcz20_2
      try clear hcz21_0 hcz21_1
      try clear hcz23_0 hcz23_1 hcz23_2
      try clear hcz24_0 hcz24_1
      try clear hfz14_0 hfz14_1 hfz14_2
      try clear hfz15_0 hfz15_1
      try clear hfz17_0 hfz17_1 hfz17_2
      try clear hfz18_0 hfz18_1
      try clear hfz20_0 hfz20_1 hfz20_2
      try clear hfz21_0 hfz21_1
      try clear hfz23_0 hfz23_1 hfz23_2
      try clear hfz24_0 hfz24_1
      obtain ⟨kq, x8_5, rfl, HA, HJ5, BK345, BK346, HB⟩ := hcut
      cases kq with
      | zero => (have HA2 := HA.out; clear HA; revert HA2; rw [refrainlaw4_CsvCarries.j0_zero]; intro h_; cases h_)
      | succ kj5 =>
        have H := HA.out
        clear HA
        simp only [refrainlaw4_CsvCarries.j0] at H
        have HC25 := Aside0.mk H
        clear H
        go_upto_block 0 with (fail)
        go_cut [8] (fun v8 wc => ∃ (kq : Nat) (x8_24 : Bool), v8 = .bool x8_24 ∧ Aside0 (refrainlaw4_CsvCarries.j2 kq l2 x8_24 a0_0 l0_1 a1_0 a1_1 l1_2 = some r) ∧ Aside0 (kq ≤ kj5) ∧ Aside0 (wc.heap[gb345]? = some (.cells #[.string a0_0, (.slice A0_1 l0_1.length c0_1)] 24 (0, 0))) ∧ Aside0 (wc.heap[gb346]? = some (.cells #[.string a1_0, .int .i64 a1_1, (.slice A1_2 l1_2.length c1_2)] 35 (0, 0))) ∧ Aside0 (Below w.heap.size w wc))
        case first =>
          have H := HC25.out
          clear HC25
          have H' := Aside0.mk H
          clear H
          go_wp2
          go_loopg [8, 9] kj5 (fun kq v8 v9 w' => ∃ (x8_2 : Bool) (x9_2 : Int), v8 = .bool x8_2 ∧ v9 = .int .i64 x9_2 ∧ Aside0 (refrainlaw4_CsvCarries.l0 kq l2 x8_2 x9_2 a0_0 l0_1 a1_0 a1_1 l1_2 = some r) ∧ Aside0 (kq ≤ kj5) ∧ Aside0 (w'.heap[gb345]? = some (.cells #[.string a0_0, (.slice A0_1 l0_1.length c0_1)] 24 (0, 0))) ∧ Aside0 (w'.heap[gb346]? = some (.cells #[.string a1_0, .int .i64 a1_1, (.slice A1_2 l1_2.length c1_2)] 35 (0, 0))) ∧ Aside0 (Below w.heap.size w w'))
          case atStart => exact ⟨(x8_5), (0), (by first | rfl | (simp; done) | (simp [*]; done) | (simp; unfold wrap64; omega) | (congr 1; (try rw [Bool.eq_iff_iff]); simp [List.isEmpty_iff]; done)), (by first | rfl | (simp; done) | (simp [*]; done) | (simp; unfold wrap64; omega) | (congr 1; (try rw [Bool.eq_iff_iff]); simp [List.isEmpty_iff]; done)), H', ⟨Nat.le_refl _⟩, ⟨bkT BK345.out⟩, ⟨bkT BK346.out⟩, ⟨hbT HB.out⟩⟩
          case round =>
            clear H'
            try clear c1
            try clear c2
            try clear p2
            try clear c4
            try clear c5
            try clear c7
            try clear c10
            try clear c10b0
            try clear c10b1
            try clear c11
            try clear c11b0
            try clear c12
            try clear c12b0
            try clear c13
            try clear c16
            try clear c19
            try clear c22
            try clear hcz14_0 hcz14_1 hcz14_2
            try clear hcz15_0 hcz15_1
            try clear hcz17_0 hcz17_1 hcz17_2
            try clear hcz18_0 hcz18_1
            try clear hcz20_0 hcz20_1 hcz20_2
            try clear hcz21_0 hcz21_1
            try clear hcz23_0 hcz23_1 hcz23_2
            try clear hcz24_0 hcz24_1
            try clear hfz14_0 hfz14_1 hfz14_2
            try clear hfz15_0 hfz15_1
            try clear hfz17_0 hfz17_1 hfz17_2
            try clear hfz18_0 hfz18_1
            try clear hfz20_0 hfz20_1 hfz20_2
            try clear hfz21_0 hfz21_1
            try clear hfz23_0 hfz23_1 hfz23_2
            try clear hfz24_0 hfz24_1
            try clear p2
            obtain ⟨x8_2, x9_2, rfl, rfl, HA, HK2, BK345, BK346, HB⟩ := hrel
            cases gk with
            | zero => (have HA2 := HA.out; clear HA; revert HA2; rw [refrainlaw4_CsvCarries.l0_zero]; intro h_; cases h_)
            | succ k2 =>
              have H := HA.out
              clear HA
              simp only [refrainlaw4_CsvCarries.l0] at H
              by_cases c26 : x9_2 < (l1_2.length : Int)
              · rw [if_pos c26] at H
                have c26b0 : decide (x9_2 < (l1_2.length : Int)) = true := decide_eq_true c26
                clear c26
                (first | rw [c26b0] | (simp only [i64_w, i32_w, IntKind.wrap_u8, IntKind.wrap_u16, IntKind.wrap_u32]; rw [c26b0]) | skip)
                by_cases c27 : x8_2 = true
                · subst c27
                  have H1 : (if 0 ≤ x9_2 then ((value_Valid.f ((rd_T43 l1_2 x9_2).f0) ((rd_T43 l1_2 x9_2).f1) ((rd_T43 l1_2 x9_2).f2) ((rd_T43 l1_2 x9_2).f3)).bind fun t349 => (if t349 = true then (if x9_2 < (l0_1.length : Int) then (refrainlaw4_CsvCarries.l0 k2 l2 (((rd_T43 l1_2 x9_2).f0) == ((rd_T30 l0_1 x9_2).f1)) (wrap64 (x9_2 + 1)) a0_0 l0_1 a1_0 a1_1 l1_2) else (none)) else (refrainlaw4_CsvCarries.l0 k2 l2 false (wrap64 (x9_2 + 1)) a0_0 l0_1 a1_0 a1_1 l1_2))) else (none)) = some r := by rw [if_pos rfl] at H; exact H
                  clear H
                  have H := H1
                  clear H1
                  by_cases c28 : 0 ≤ x9_2
                  · rw [if_pos c28] at H
                    have c28b0 : decide (0 ≤ x9_2) = true := decide_eq_true c28
                    clear c28
                    replace H := Option.bind_eq_some_iff.mp H
                    obtain ⟨t349, A290, H⟩ := H
                    replace H : (if t349 = true then (if x9_2 < (l0_1.length : Int) then (refrainlaw4_CsvCarries.l0 k2 l2 (((rd_T43 l1_2 x9_2).f0) == ((rd_T30 l0_1 x9_2).f1)) (wrap64 (x9_2 + 1)) a0_0 l0_1 a1_0 a1_1 l1_2) else (none)) else (refrainlaw4_CsvCarries.l0 k2 l2 false (wrap64 (x9_2 + 1)) a0_0 l0_1 a1_0 a1_1 l1_2)) = some r := H
                    have A29 := Aside0.mk A290
                    clear A290
                    by_cases c30 : t349 = true
                    · subst c30
                      have H1 : (if x9_2 < (l0_1.length : Int) then (refrainlaw4_CsvCarries.l0 k2 l2 (((rd_T43 l1_2 x9_2).f0) == ((rd_T30 l0_1 x9_2).f1)) (wrap64 (x9_2 + 1)) a0_0 l0_1 a1_0 a1_1 l1_2) else (none)) = some r := by rw [if_pos rfl] at H; exact H
                      clear H
                      have H := H1
                      clear H1
                      by_cases c31 : x9_2 < (l0_1.length : Int)
                      · rw [if_pos c31] at H
                        have c31b0 : decide (x9_2 < (l0_1.length : Int)) = true := decide_eq_true c31
                        clear c31
                        have H' := Aside0.mk H
                        clear H; have hnb32 := NB346_345.out
                        have hnc32 := NB345_346.out; have hcz33_0 : wr.cell? ⟨gb346, 0, none⟩ = some (.string a1_0) := (blk_cell BK346.out 0).trans rfl; have hcz33_1 : wr.cell? ⟨gb346, 1, none⟩ = some (.int .i64 a1_1) := (blk_cell BK346.out 1).trans rfl; have hcz33_2 : wr.cell? ⟨gb346, 2, none⟩ = some (.slice A1_2 l1_2.length c1_2) := (blk_cell BK346.out 2).trans rfl; have hfz33_0 := blk_frozen BK346.out 0; have hfz33_1 := blk_frozen BK346.out 1; have hfz33_2 := blk_frozen BK346.out 2
                        have p348 : 0 ≤ (x9_2 : Int) := of_decide_eq_true (by first | (with_reducible assumption) | assumption)
                        have q348 : x9_2 < (l1_2.length : Int) := of_decide_eq_true (by first | (with_reducible assumption) | assumption)
                        obtain ⟨ad348, e348, hx348_0, hx348_1, hx348_2, hx348_3⟩ := at_T43 HR1_2.out x9_2 p348 q348
                        cases e348
                        replace hx348_0 := (HB.out.cell (World.block_lt_of_cell? w _ hx348_0)).trans hx348_0; replace hx348_1 := (HB.out.cell (World.block_lt_of_cell? w _ hx348_1)).trans hx348_1; replace hx348_2 := (HB.out.cell (World.block_lt_of_cell? w _ hx348_2)).trans hx348_2; replace hx348_3 := (HB.out.cell (World.block_lt_of_cell? w _ hx348_3)).trans hx348_3
                        replace p348 := eq_true p348
                        replace q348 := eq_true q348
                        try go_wp2_with (first | ((with_reducible refine gate_callee (f := 17) rfl ?_); refine goesT (some 65) Tryz.func17 #[.agg #[.int .i64 ((rd_T43 l1_2 x9_2).f0), .int .i64 ((rd_T43 l1_2 x9_2).f1), .string ((rd_T43 l1_2 x9_2).f2), .bool ((rd_T43 l1_2 x9_2).f3)]] ?_; (with_reducible refine (value_Valid.calls ((rd_T43 l1_2 x9_2).f0) ((rd_T43 l1_2 x9_2).f1) ((rd_T43 l1_2 x9_2).f2) ((rd_T43 l1_2 x9_2).f3) true _ A29.out).mono ?_); rintro e w34 ⟨rfl, hb⟩; refine ⟨_, rfl, ?_⟩; replace BK345 := bbA BK345 hb; replace BK346 := bbA BK346 hb; replace HB := bsA HB hb; (try clear hb); (try clear hb2); (try clear hk); (try clear hi)))
                        replace BK345 := bdA BK345; replace BK346 := bdA BK346; replace HB := Aside0.mk (below_drew1 HB.out)
                        have p350 : 0 ≤ (x9_2 : Int) := of_decide_eq_true (by first | (with_reducible assumption) | assumption)
                        have q350 : x9_2 < (l1_2.length : Int) := of_decide_eq_true (by first | (with_reducible assumption) | assumption)
                        obtain ⟨ad350, e350, hx350_0, hx350_1, hx350_2, hx350_3⟩ := at_T43 HR1_2.out x9_2 p350 q350
                        have hw350_3 := hx350_3; have hw350_2 := hx350_2; have hw350_1 := hx350_1; have hw350_0 := hx350_0
                        obtain rfl : ad348 = ad350 := (by injection e350)
                        replace hx350_0 := (HB.out.cell (World.block_lt_of_cell? w _ hx350_0)).trans hx350_0; replace hx350_1 := (HB.out.cell (World.block_lt_of_cell? w _ hx350_1)).trans hx350_1; replace hx350_2 := (HB.out.cell (World.block_lt_of_cell? w _ hx350_2)).trans hx350_2; replace hx350_3 := (HB.out.cell (World.block_lt_of_cell? w _ hx350_3)).trans hx350_3
                        replace p350 := eq_true p350
                        replace q350 := eq_true q350
                        have p351 : 0 ≤ (x9_2 : Int) := of_decide_eq_true (by first | (with_reducible assumption) | assumption)
                        have q351 : x9_2 < (l0_1.length : Int) := of_decide_eq_true (by first | (with_reducible assumption) | assumption)
                        obtain ⟨ad351, e351, hx351_0, hx351_1⟩ := at_T30 HR0_1.out x9_2 p351 q351
                        have hw351_1 := hx351_1; have hw351_0 := hx351_0
                        cases e351
                        replace hx351_0 := (HB.out.cell (World.block_lt_of_cell? w _ hx351_0)).trans hx351_0; replace hx351_1 := (HB.out.cell (World.block_lt_of_cell? w _ hx351_1)).trans hx351_1
                        replace p351 := eq_true p351
                        replace q351 := eq_true q351
                        refine start_ (n := 17) (S := fun w' => w'.cell? ⟨gb346, 0, none⟩ = some (.string a1_0) ∧ w'.cell? ⟨gb346, 1, none⟩ = some (.int .i64 a1_1) ∧ w'.cell? ⟨gb346, 2, none⟩ = some (.slice (some ad348) l1_2.length c1_2) ∧ w'.cell? ⟨gb345, 0, none⟩ = some (.string a0_0) ∧ w'.cell? ⟨gb345, 1, none⟩ = some (.slice (some ad351) l0_1.length c0_1) ∧ w'.cell? (ad348.add ((x9_2).toNat * 4)) = some (.int .i64 ((rd_T43 l1_2 x9_2).f0)) ∧ w'.cell? ⟨(ad348.add ((x9_2).toNat * 4)).block, (ad348.add ((x9_2).toNat * 4)).off + 1, none⟩ = some (.int .i64 ((rd_T43 l1_2 x9_2).f1)) ∧ w'.cell? ⟨(ad348.add ((x9_2).toNat * 4)).block, (ad348.add ((x9_2).toNat * 4)).off + 2, none⟩ = some (.string ((rd_T43 l1_2 x9_2).f2)) ∧ w'.cell? ⟨(ad348.add ((x9_2).toNat * 4)).block, (ad348.add ((x9_2).toNat * 4)).off + 3, none⟩ = some (.bool ((rd_T43 l1_2 x9_2).f3)) ∧ w'.cell? (ad351.add ((x9_2).toNat * 2)) = some (.string ((rd_T30 l0_1 x9_2).f0)) ∧ w'.cell? ⟨(ad351.add ((x9_2).toNat * 2)).block, (ad351.add ((x9_2).toNat * 2)).off + 1, none⟩ = some (.int .i64 ((rd_T30 l0_1 x9_2).f1))) (ds := []) #[false, false, false, false, false, false, false, false, false, false, false, false, false, false, false, false, false] (by kernel_rfl) rfl rfl ⟨(blk_cell BK346.out 0).trans rfl, (blk_cell BK346.out 1).trans rfl, (blk_cell BK346.out 2).trans rfl, (blk_cell BK345.out 0).trans rfl, (blk_cell BK345.out 1).trans rfl, ((HB.out.cell (World.block_lt_of_cell? w _ hw350_0)).trans hw350_0), ((HB.out.cell (World.block_lt_of_cell? w _ hw350_1)).trans hw350_1), ((HB.out.cell (World.block_lt_of_cell? w _ hw350_2)).trans hw350_2), ((HB.out.cell (World.block_lt_of_cell? w _ hw350_3)).trans hw350_3), ((HB.out.cell (World.block_lt_of_cell? w _ hw351_0)).trans hw351_0), ((HB.out.cell (World.block_lt_of_cell? w _ hw351_1)).trans hw351_1)⟩ (fun hHeld => ?_); refine with_tabW refrainlaw4_CsvCarries.tab9 refrainlaw4_CsvCarries.bits9 (fun HT_ HW_ => ?_)
                        generalize w34.drew = w35 at BK345 BK346 HB hx350_0 hx350_1 hx350_2 hx350_3 hx351_0 hx351_1 hHeld ⊢
                        refine pure_ (i := 0) (N := some 66) (v := ?_) (a' := ?_) #[true, false, false, false, false, false, false, false, false, false, false, false, false, false, false, false, false] rfl rfl (any_of HT_.out (by kernel_rfl)) (fun _ _ _ h => h) (Or.inl ⟨by rfl, ?_⟩) ?_ ?_
                        rotate_left; (focus (intro w'; go_simp; with_reducible rfl)); rotate_left; (focus (simp only [Act.put, List.setIfInBounds_toArray, List.set_cons_zero, List.set_cons_succ, i64_w, i32_w, IntKind.wrap_u8, IntKind.wrap_u16, IntKind.wrap_u32]; rfl))
                        refine pure_ (i := 1) (N := some 67) (v := ?_) (a' := ?_) #[true, true, false, false, false, false, false, false, false, false, false, false, false, false, false, false, false] rfl rfl (any_of HT_.out (by kernel_rfl)) (fun _ _ _ h => h) (Or.inl ⟨by rfl, ?_⟩) ?_ ?_
                        rotate_left; (focus (intro w'; go_simp; with_reducible rfl)); rotate_left; (focus (simp only [Act.put, List.setIfInBounds_toArray, List.set_cons_zero, List.set_cons_succ, i64_w, i32_w, IntKind.wrap_u8, IntKind.wrap_u16, IntKind.wrap_u32]; rfl))
                        refine pure_ (i := 2) (N := some 68) (v := ?_) (a' := ?_) #[true, true, true, false, false, false, false, false, false, false, false, false, false, false, false, false, false] rfl rfl (any_of HT_.out (by kernel_rfl)) (fun _ _ _ h => h) (Or.inl ⟨by rfl, ?_⟩) ?_ ?_
                        rotate_left; (focus (intro w'; go_simp; with_reducible rfl)); rotate_left; (focus (simp only [Act.put, List.setIfInBounds_toArray, List.set_cons_zero, List.set_cons_succ, i64_w, i32_w, IntKind.wrap_u8, IntKind.wrap_u16, IntKind.wrap_u32]; rfl))
                        refine pure_ (i := 4) (N := some 70) (v := ?_) (a' := ?_) #[true, true, true, false, true, false, false, false, false, false, false, false, false, false, false, false, false] rfl rfl (any_of HT_.out (by kernel_rfl)) (fun _ _ _ h => h) (Or.inl ⟨by rfl, ?_⟩) ?_ ?_
                        rotate_left; (focus (intro w'; go_simp; with_reducible rfl)); rotate_left; (focus (simp only [Act.put, List.setIfInBounds_toArray, List.set_cons_zero, List.set_cons_succ, i64_w, i32_w, IntKind.wrap_u8, IntKind.wrap_u16, IntKind.wrap_u32]; rfl))
                        refine pure_ (i := 8) (N := some 74) (v := ?_) (a' := ?_) #[true, true, true, false, true, false, false, false, true, false, false, false, false, false, false, false, false] rfl rfl (any_of HT_.out (by kernel_rfl)) (fun _ _ _ h => h) (Or.inl ⟨by rfl, ?_⟩) ?_ ?_
                        rotate_left; (focus (intro w'; go_simp; with_reducible rfl)); rotate_left; (focus (simp only [Act.put, List.setIfInBounds_toArray, List.set_cons_zero, List.set_cons_succ, i64_w, i32_w, IntKind.wrap_u8, IntKind.wrap_u16, IntKind.wrap_u32]; rfl))
                        refine pure_ (i := 10) (N := some 76) (v := ?_) (a' := ?_) #[true, true, true, false, true, false, false, false, true, false, true, false, false, false, false, false, false] rfl rfl (any_of HT_.out (by kernel_rfl)) (fun _ _ _ h => h) (Or.inl ⟨by rfl, ?_⟩) ?_ ?_
                        rotate_left; (focus (intro w'; go_simp; with_reducible rfl)); rotate_left; (focus (simp only [Act.put, List.setIfInBounds_toArray, List.set_cons_zero, List.set_cons_succ, i64_w, i32_w, IntKind.wrap_u8, IntKind.wrap_u16, IntKind.wrap_u32]; rfl))
                        refine take_ (i := 3) (N := some 69) (v := ?_) (a' := ?_) #[true, true, true, true, true, false, false, false, true, false, true, false, false, false, false, false, false] rfl rfl (take_ofW HT_.out HW_.out (by kernel_rfl)) (fun _ _ _ h => h) (Or.inl ⟨by rfl, ?_⟩) hHeld ?_ ?_
                        rotate_left; (focus (rintro w' ⟨s0, s1, s2, s3, s4, s5, s6, s7, s8, s9, s10⟩; go_simp; with_reducible rfl)); rotate_left; (focus (simp only [Act.put, List.setIfInBounds_toArray, List.set_cons_zero, List.set_cons_succ, i64_w, i32_w, IntKind.wrap_u8, IntKind.wrap_u16, IntKind.wrap_u32]; rfl))
                        refine pure_ (i := 5) (N := some 71) (v := ?_) (a' := ?_) #[true, true, true, true, true, true, false, false, true, false, true, false, false, false, false, false, false] rfl rfl (any_of HT_.out (by kernel_rfl)) (fun _ _ _ h => h) (Or.inl ⟨by rfl, ?_⟩) ?_ ?_
                        rotate_left; (focus (intro w'; go_simp; with_reducible rfl)); rotate_left; (focus (simp only [Act.put, List.setIfInBounds_toArray, List.set_cons_zero, List.set_cons_succ, i64_w, i32_w, IntKind.wrap_u8, IntKind.wrap_u16, IntKind.wrap_u32]; rfl))
                        refine pure_ (i := 6) (N := some 72) (v := ?_) (a' := ?_) #[true, true, true, true, true, true, true, false, true, false, true, false, false, false, false, false, false] rfl rfl (any_of HT_.out (by kernel_rfl)) (fun _ _ _ h => h) (Or.inl ⟨by rfl, ?_⟩) ?_ ?_
                        rotate_left; (focus (intro w'; go_simp; with_reducible rfl)); rotate_left; (focus (simp only [Act.put, List.setIfInBounds_toArray, List.set_cons_zero, List.set_cons_succ, i64_w, i32_w, IntKind.wrap_u8, IntKind.wrap_u16, IntKind.wrap_u32]; rfl))
                        refine take_ (i := 7) (N := some 73) (v := ?_) (a' := ?_) #[true, true, true, true, true, true, true, true, true, false, true, false, false, false, false, false, false] rfl rfl (take_ofW HT_.out HW_.out (by kernel_rfl)) (fun _ _ _ h => h) (Or.inl ⟨by rfl, ?_⟩) hHeld ?_ ?_
                        rotate_left; (focus (rintro w' ⟨s0, s1, s2, s3, s4, s5, s6, s7, s8, s9, s10⟩; go_simp; with_reducible rfl)); rotate_left; (focus (simp only [Act.put, List.setIfInBounds_toArray, List.set_cons_zero, List.set_cons_succ, i64_w, i32_w, IntKind.wrap_u8, IntKind.wrap_u16, IntKind.wrap_u32]; rfl))
                        refine take_ (i := 9) (N := some 75) (v := ?_) (a' := ?_) #[true, true, true, true, true, true, true, true, true, true, true, false, false, false, false, false, false] rfl rfl (take_ofW HT_.out HW_.out (by kernel_rfl)) (fun _ _ _ h => h) (Or.inl ⟨by rfl, ?_⟩) hHeld ?_ ?_
                        rotate_left; (focus (rintro w' ⟨s0, s1, s2, s3, s4, s5, s6, s7, s8, s9, s10⟩; go_simp; with_reducible rfl)); rotate_left; (focus (simp only [Act.put, List.setIfInBounds_toArray, List.set_cons_zero, List.set_cons_succ, i64_w, i32_w, IntKind.wrap_u8, IntKind.wrap_u16, IntKind.wrap_u32]; rfl))
                        refine pure_ (i := 11) (N := some 77) (v := ?_) (a' := ?_) #[true, true, true, true, true, true, true, true, true, true, true, true, false, false, false, false, false] rfl rfl (any_of HT_.out (by kernel_rfl)) (fun _ _ _ h => h) (Or.inl ⟨by rfl, ?_⟩) ?_ ?_
                        rotate_left; (focus (intro w'; go_simp; with_reducible rfl)); rotate_left; (focus (simp only [Act.put, List.setIfInBounds_toArray, List.set_cons_zero, List.set_cons_succ, i64_w, i32_w, IntKind.wrap_u8, IntKind.wrap_u16, IntKind.wrap_u32]; rfl))
                        refine pure_ (i := 12) (N := some 78) (v := ?_) (a' := ?_) #[true, true, true, true, true, true, true, true, true, true, true, true, true, false, false, false, false] rfl rfl (any_of HT_.out (by kernel_rfl)) (fun _ _ _ h => h) (Or.inl ⟨by rfl, ?_⟩) ?_ ?_
                        rotate_left; (focus (intro w'; go_simp; with_reducible rfl)); rotate_left; (focus (simp only [Act.put, List.setIfInBounds_toArray, List.set_cons_zero, List.set_cons_succ, i64_w, i32_w, IntKind.wrap_u8, IntKind.wrap_u16, IntKind.wrap_u32]; rfl))
                        refine take_ (i := 13) (N := some 79) (v := ?_) (a' := ?_) #[true, true, true, true, true, true, true, true, true, true, true, true, true, true, false, false, false] rfl rfl (take_ofW HT_.out HW_.out (by kernel_rfl)) (fun _ _ _ h => h) (Or.inl ⟨by rfl, ?_⟩) hHeld ?_ ?_
                        rotate_left; (focus (rintro w' ⟨s0, s1, s2, s3, s4, s5, s6, s7, s8, s9, s10⟩; go_simp; with_reducible rfl)); rotate_left; (focus (simp only [Act.put, List.setIfInBounds_toArray, List.set_cons_zero, List.set_cons_succ, i64_w, i32_w, IntKind.wrap_u8, IntKind.wrap_u16, IntKind.wrap_u32]; rfl))
                        refine pure_ (i := 14) (N := some 80) (v := ?_) (a' := ?_) #[true, true, true, true, true, true, true, true, true, true, true, true, true, true, true, false, false] rfl rfl (any_of HT_.out (by kernel_rfl)) (fun _ _ _ h => h) (Or.inl ⟨by rfl, ?_⟩) ?_ ?_
                        rotate_left; (focus (intro w'; go_simp; with_reducible rfl)); rotate_left; (focus (simp only [Act.put, List.setIfInBounds_toArray, List.set_cons_zero, List.set_cons_succ, i64_w, i32_w, IntKind.wrap_u8, IntKind.wrap_u16, IntKind.wrap_u32]; rfl))
                        refine pure_ (i := 15) (N := some 81) (v := ?_) (a' := ?_) #[true, true, true, true, true, true, true, true, true, true, true, true, true, true, true, true, false] rfl rfl (any_of HT_.out (by kernel_rfl)) (fun _ _ _ h => h) (Or.inl ⟨by rfl, ?_⟩) ?_ ?_
                        rotate_left; (focus (intro w'; go_simp; with_reducible rfl)); rotate_left; (focus (simp only [Act.put, List.setIfInBounds_toArray, List.set_cons_zero, List.set_cons_succ, i64_w, i32_w, IntKind.wrap_u8, IntKind.wrap_u16, IntKind.wrap_u32]; rfl))
                        refine pure_ (i := 16) (N := some 8) (v := ?_) (a' := ?_) #[true, true, true, true, true, true, true, true, true, true, true, true, true, true, true, true, true] rfl rfl (any_of HT_.out (by kernel_rfl)) (fun _ _ _ h => h) (Or.inl ⟨by rfl, ?_⟩) ?_ ?_
                        rotate_left; (focus (intro w'; go_simp; with_reducible rfl)); rotate_left; (focus (simp only [Act.put, List.setIfInBounds_toArray, List.set_cons_zero, List.set_cons_succ, i64_w, i32_w, IntKind.wrap_u8, IntKind.wrap_u16, IntKind.wrap_u32]; rfl))
                        refine done_ (done_of HT_.out (by kernel_rfl)) ?_
                        try go_wp2
                        go_roundg k2
                        case measure => have := HJ5.out; have := HK2.out; omega
                        case rel => exact ⟨((((rd_T43 l1_2 x9_2).f0) == ((rd_T30 l0_1 x9_2).f1))), (wrap64 (x9_2 + 1)), (by first | rfl | (simp; done) | (simp [*]; done) | (simp; unfold wrap64; omega) | (congr 1; (try rw [Bool.eq_iff_iff]); simp [List.isEmpty_iff]; done)), (by first | rfl | (simp; done) | (simp [*]; done) | (simp; unfold wrap64; omega) | (congr 1; (try rw [Bool.eq_iff_iff]); simp [List.isEmpty_iff]; done)), H', ⟨by have := HJ5.out; have := HK2.out; omega⟩, ⟨bkT BK345.out⟩, ⟨bkT BK346.out⟩, ⟨hbT HB.out⟩⟩
                      · rw [if_neg c31] at H
                        exact absurd H (by simp)
                    · replace c30 := Bool.eq_false_iff.mpr c30
                      subst c30
                      have H1 : (refrainlaw4_CsvCarries.l0 k2 l2 false (wrap64 (x9_2 + 1)) a0_0 l0_1 a1_0 a1_1 l1_2) = some r := by rw [if_neg (show ¬ (false = true) by decide)] at H; exact H
                      clear H
                      have H := H1
                      clear H1
                      have H' := Aside0.mk H
                      clear H; have hnb36 := NB346_345.out
                      have hnc36 := NB345_346.out; have hcz37_0 : wr.cell? ⟨gb346, 0, none⟩ = some (.string a1_0) := (blk_cell BK346.out 0).trans rfl; have hcz37_1 : wr.cell? ⟨gb346, 1, none⟩ = some (.int .i64 a1_1) := (blk_cell BK346.out 1).trans rfl; have hcz37_2 : wr.cell? ⟨gb346, 2, none⟩ = some (.slice A1_2 l1_2.length c1_2) := (blk_cell BK346.out 2).trans rfl; have hfz37_0 := blk_frozen BK346.out 0; have hfz37_1 := blk_frozen BK346.out 1; have hfz37_2 := blk_frozen BK346.out 2
                      have p348 : 0 ≤ (x9_2 : Int) := of_decide_eq_true (by first | (with_reducible assumption) | assumption)
                      have q348 : x9_2 < (l1_2.length : Int) := of_decide_eq_true (by first | (with_reducible assumption) | assumption)
                      obtain ⟨ad348, e348, hx348_0, hx348_1, hx348_2, hx348_3⟩ := at_T43 HR1_2.out x9_2 p348 q348
                      cases e348
                      replace hx348_0 := (HB.out.cell (World.block_lt_of_cell? w _ hx348_0)).trans hx348_0; replace hx348_1 := (HB.out.cell (World.block_lt_of_cell? w _ hx348_1)).trans hx348_1; replace hx348_2 := (HB.out.cell (World.block_lt_of_cell? w _ hx348_2)).trans hx348_2; replace hx348_3 := (HB.out.cell (World.block_lt_of_cell? w _ hx348_3)).trans hx348_3
                      replace p348 := eq_true p348
                      replace q348 := eq_true q348
                      try go_wp2_with (first | ((with_reducible refine gate_callee (f := 17) rfl ?_); refine goesT (some 65) Tryz.func17 #[.agg #[.int .i64 ((rd_T43 l1_2 x9_2).f0), .int .i64 ((rd_T43 l1_2 x9_2).f1), .string ((rd_T43 l1_2 x9_2).f2), .bool ((rd_T43 l1_2 x9_2).f3)]] ?_; (with_reducible refine (value_Valid.calls ((rd_T43 l1_2 x9_2).f0) ((rd_T43 l1_2 x9_2).f1) ((rd_T43 l1_2 x9_2).f2) ((rd_T43 l1_2 x9_2).f3) false _ A29.out).mono ?_); rintro e w38 ⟨rfl, hb⟩; refine ⟨_, rfl, ?_⟩; replace BK345 := bbA BK345 hb; replace BK346 := bbA BK346 hb; replace HB := bsA HB hb; (try clear hb); (try clear hb2); (try clear hk); (try clear hi)))
                      replace BK345 := bdA BK345; replace BK346 := bdA BK346; replace HB := Aside0.mk (below_drew1 HB.out)
                      refine start_ (n := 17) (S := fun w' => True) (ds := []) #[false, false, false, false, false, false, false, false, false, false, false, false, false, false, false, false, false] (by kernel_rfl) rfl rfl trivial (fun hHeld => ?_); refine with_tabW refrainlaw4_CsvCarries.tab9 refrainlaw4_CsvCarries.bits9 (fun HT_ HW_ => ?_)
                      generalize w38.drew = w39 at BK345 BK346 HB hHeld ⊢
                      refine pure_ (i := 0) (N := some 66) (v := ?_) (a' := ?_) #[true, false, false, false, false, false, false, false, false, false, false, false, false, false, false, false, false] rfl rfl (any_of HT_.out (by kernel_rfl)) (fun _ _ _ h => h) (Or.inl ⟨by rfl, ?_⟩) ?_ ?_
                      rotate_left; (focus (intro w'; go_simp; with_reducible rfl)); rotate_left; (focus (simp only [Act.put, List.setIfInBounds_toArray, List.set_cons_zero, List.set_cons_succ, i64_w, i32_w, IntKind.wrap_u8, IntKind.wrap_u16, IntKind.wrap_u32]; rfl))
                      refine pure_ (i := 1) (N := some 67) (v := ?_) (a' := ?_) #[true, true, false, false, false, false, false, false, false, false, false, false, false, false, false, false, false] rfl rfl (any_of HT_.out (by kernel_rfl)) (fun _ _ _ h => h) (Or.inl ⟨by rfl, ?_⟩) ?_ ?_
                      rotate_left; (focus (intro w'; go_simp; with_reducible rfl)); rotate_left; (focus (simp only [Act.put, List.setIfInBounds_toArray, List.set_cons_zero, List.set_cons_succ, i64_w, i32_w, IntKind.wrap_u8, IntKind.wrap_u16, IntKind.wrap_u32]; rfl))
                      refine pure_ (i := 2) (N := some 68) (v := undef) (a' := ?_) #[true, true, true, false, false, false, false, false, false, false, false, false, false, false, false, false, false] rfl rfl (any_of HT_.out (by kernel_rfl)) (fun _ _ _ h => h) (Or.inr ⟨by rfl, rfl⟩) ?_ ?_
                      rotate_left
                      · simp only [Act.put, List.setIfInBounds_toArray, List.set_cons_zero, List.set_cons_succ, i64_w, i32_w, IntKind.wrap_u8, IntKind.wrap_u16, IntKind.wrap_u32]
                        rfl
                      refine pure_ (i := 3) (N := some 69) (v := undef) (a' := ?_) #[true, true, true, true, false, false, false, false, false, false, false, false, false, false, false, false, false] rfl rfl (any_of HT_.out (by kernel_rfl)) (fun _ _ _ h => h) (Or.inr ⟨by rfl, rfl⟩) ?_ ?_
                      rotate_left
                      · simp only [Act.put, List.setIfInBounds_toArray, List.set_cons_zero, List.set_cons_succ, i64_w, i32_w, IntKind.wrap_u8, IntKind.wrap_u16, IntKind.wrap_u32]
                        rfl
                      refine pure_ (i := 4) (N := some 70) (v := undef) (a' := ?_) #[true, true, true, true, true, false, false, false, false, false, false, false, false, false, false, false, false] rfl rfl (any_of HT_.out (by kernel_rfl)) (fun _ _ _ h => h) (Or.inr ⟨by rfl, rfl⟩) ?_ ?_
                      rotate_left
                      · simp only [Act.put, List.setIfInBounds_toArray, List.set_cons_zero, List.set_cons_succ, i64_w, i32_w, IntKind.wrap_u8, IntKind.wrap_u16, IntKind.wrap_u32]
                        rfl
                      refine pure_ (i := 5) (N := some 71) (v := undef) (a' := ?_) #[true, true, true, true, true, true, false, false, false, false, false, false, false, false, false, false, false] rfl rfl (any_of HT_.out (by kernel_rfl)) (fun _ _ _ h => h) (Or.inr ⟨by rfl, rfl⟩) ?_ ?_
                      rotate_left
                      · simp only [Act.put, List.setIfInBounds_toArray, List.set_cons_zero, List.set_cons_succ, i64_w, i32_w, IntKind.wrap_u8, IntKind.wrap_u16, IntKind.wrap_u32]
                        rfl
                      refine pure_ (i := 6) (N := some 72) (v := undef) (a' := ?_) #[true, true, true, true, true, true, true, false, false, false, false, false, false, false, false, false, false] rfl rfl (any_of HT_.out (by kernel_rfl)) (fun _ _ _ h => h) (Or.inr ⟨by rfl, rfl⟩) ?_ ?_
                      rotate_left
                      · simp only [Act.put, List.setIfInBounds_toArray, List.set_cons_zero, List.set_cons_succ, i64_w, i32_w, IntKind.wrap_u8, IntKind.wrap_u16, IntKind.wrap_u32]
                        rfl
                      refine pure_ (i := 7) (N := some 73) (v := undef) (a' := ?_) #[true, true, true, true, true, true, true, true, false, false, false, false, false, false, false, false, false] rfl rfl (any_of HT_.out (by kernel_rfl)) (fun _ _ _ h => h) (Or.inr ⟨by rfl, rfl⟩) ?_ ?_
                      rotate_left
                      · simp only [Act.put, List.setIfInBounds_toArray, List.set_cons_zero, List.set_cons_succ, i64_w, i32_w, IntKind.wrap_u8, IntKind.wrap_u16, IntKind.wrap_u32]
                        rfl
                      refine pure_ (i := 8) (N := some 74) (v := undef) (a' := ?_) #[true, true, true, true, true, true, true, true, true, false, false, false, false, false, false, false, false] rfl rfl (any_of HT_.out (by kernel_rfl)) (fun _ _ _ h => h) (Or.inr ⟨by rfl, rfl⟩) ?_ ?_
                      rotate_left
                      · simp only [Act.put, List.setIfInBounds_toArray, List.set_cons_zero, List.set_cons_succ, i64_w, i32_w, IntKind.wrap_u8, IntKind.wrap_u16, IntKind.wrap_u32]
                        rfl
                      refine pure_ (i := 9) (N := some 75) (v := undef) (a' := ?_) #[true, true, true, true, true, true, true, true, true, true, false, false, false, false, false, false, false] rfl rfl (any_of HT_.out (by kernel_rfl)) (fun _ _ _ h => h) (Or.inr ⟨by rfl, rfl⟩) ?_ ?_
                      rotate_left
                      · simp only [Act.put, List.setIfInBounds_toArray, List.set_cons_zero, List.set_cons_succ, i64_w, i32_w, IntKind.wrap_u8, IntKind.wrap_u16, IntKind.wrap_u32]
                        rfl
                      refine pure_ (i := 10) (N := some 76) (v := undef) (a' := ?_) #[true, true, true, true, true, true, true, true, true, true, true, false, false, false, false, false, false] rfl rfl (any_of HT_.out (by kernel_rfl)) (fun _ _ _ h => h) (Or.inr ⟨by rfl, rfl⟩) ?_ ?_
                      rotate_left
                      · simp only [Act.put, List.setIfInBounds_toArray, List.set_cons_zero, List.set_cons_succ, i64_w, i32_w, IntKind.wrap_u8, IntKind.wrap_u16, IntKind.wrap_u32]
                        rfl
                      refine pure_ (i := 11) (N := some 77) (v := undef) (a' := ?_) #[true, true, true, true, true, true, true, true, true, true, true, true, false, false, false, false, false] rfl rfl (any_of HT_.out (by kernel_rfl)) (fun _ _ _ h => h) (Or.inr ⟨by rfl, rfl⟩) ?_ ?_
                      rotate_left
                      · simp only [Act.put, List.setIfInBounds_toArray, List.set_cons_zero, List.set_cons_succ, i64_w, i32_w, IntKind.wrap_u8, IntKind.wrap_u16, IntKind.wrap_u32]
                        rfl
                      refine pure_ (i := 12) (N := some 78) (v := undef) (a' := ?_) #[true, true, true, true, true, true, true, true, true, true, true, true, true, false, false, false, false] rfl rfl (any_of HT_.out (by kernel_rfl)) (fun _ _ _ h => h) (Or.inr ⟨by rfl, rfl⟩) ?_ ?_
                      rotate_left
                      · simp only [Act.put, List.setIfInBounds_toArray, List.set_cons_zero, List.set_cons_succ, i64_w, i32_w, IntKind.wrap_u8, IntKind.wrap_u16, IntKind.wrap_u32]
                        rfl
                      refine pure_ (i := 13) (N := some 79) (v := undef) (a' := ?_) #[true, true, true, true, true, true, true, true, true, true, true, true, true, true, false, false, false] rfl rfl (any_of HT_.out (by kernel_rfl)) (fun _ _ _ h => h) (Or.inr ⟨by rfl, rfl⟩) ?_ ?_
                      rotate_left
                      · simp only [Act.put, List.setIfInBounds_toArray, List.set_cons_zero, List.set_cons_succ, i64_w, i32_w, IntKind.wrap_u8, IntKind.wrap_u16, IntKind.wrap_u32]
                        rfl
                      refine pure_ (i := 14) (N := some 80) (v := undef) (a' := ?_) #[true, true, true, true, true, true, true, true, true, true, true, true, true, true, true, false, false] rfl rfl (any_of HT_.out (by kernel_rfl)) (fun _ _ _ h => h) (Or.inr ⟨by rfl, rfl⟩) ?_ ?_
                      rotate_left
                      · simp only [Act.put, List.setIfInBounds_toArray, List.set_cons_zero, List.set_cons_succ, i64_w, i32_w, IntKind.wrap_u8, IntKind.wrap_u16, IntKind.wrap_u32]
                        rfl
                      refine pure_ (i := 15) (N := some 81) (v := ?_) (a' := ?_) #[true, true, true, true, true, true, true, true, true, true, true, true, true, true, true, true, false] rfl rfl (any_of HT_.out (by kernel_rfl)) (fun _ _ _ h => h) (Or.inl ⟨by rfl, ?_⟩) ?_ ?_
                      rotate_left; (focus (intro w'; go_simp; with_reducible rfl)); rotate_left; (focus (simp only [Act.put, List.setIfInBounds_toArray, List.set_cons_zero, List.set_cons_succ, i64_w, i32_w, IntKind.wrap_u8, IntKind.wrap_u16, IntKind.wrap_u32]; rfl))
                      refine pure_ (i := 16) (N := some 8) (v := ?_) (a' := ?_) #[true, true, true, true, true, true, true, true, true, true, true, true, true, true, true, true, true] rfl rfl (any_of HT_.out (by kernel_rfl)) (fun _ _ _ h => h) (Or.inl ⟨by rfl, ?_⟩) ?_ ?_
                      rotate_left; (focus (intro w'; go_simp; with_reducible rfl)); rotate_left; (focus (simp only [Act.put, List.setIfInBounds_toArray, List.set_cons_zero, List.set_cons_succ, i64_w, i32_w, IntKind.wrap_u8, IntKind.wrap_u16, IntKind.wrap_u32]; rfl))
                      refine done_ (done_of HT_.out (by kernel_rfl)) ?_
                      try go_wp2
                      go_roundg k2
                      case measure => have := HJ5.out; have := HK2.out; omega
                      case rel => exact ⟨(false), (wrap64 (x9_2 + 1)), (by first | rfl | (simp; done) | (simp [*]; done) | (simp; unfold wrap64; omega) | (congr 1; (try rw [Bool.eq_iff_iff]); simp [List.isEmpty_iff]; done)), (by first | rfl | (simp; done) | (simp [*]; done) | (simp; unfold wrap64; omega) | (congr 1; (try rw [Bool.eq_iff_iff]); simp [List.isEmpty_iff]; done)), H', ⟨by have := HJ5.out; have := HK2.out; omega⟩, ⟨bkT BK345.out⟩, ⟨bkT BK346.out⟩, ⟨hbT HB.out⟩⟩
                  · rw [if_neg c28] at H
                    exact absurd H (by simp)
                · replace c27 := Bool.eq_false_iff.mpr c27
                  subst c27
                  have H1 : (refrainlaw4_CsvCarries.j2 k2 l2 false a0_0 l0_1 a1_0 a1_1 l1_2) = some r := by rw [if_neg (show ¬ (false = true) by decide)] at H; exact H
                  clear H
                  have H := H1
                  clear H1
                  have H' := Aside0.mk H
                  clear H; have hnb40 := NB346_345.out
                  have hnc40 := NB345_346.out; have hcz41_0 : wr.cell? ⟨gb346, 0, none⟩ = some (.string a1_0) := (blk_cell BK346.out 0).trans rfl; have hcz41_1 : wr.cell? ⟨gb346, 1, none⟩ = some (.int .i64 a1_1) := (blk_cell BK346.out 1).trans rfl; have hcz41_2 : wr.cell? ⟨gb346, 2, none⟩ = some (.slice A1_2 l1_2.length c1_2) := (blk_cell BK346.out 2).trans rfl; have hfz41_0 := blk_frozen BK346.out 0; have hfz41_1 := blk_frozen BK346.out 1; have hfz41_2 := blk_frozen BK346.out 2
                  go_wp2
                  go_meet
                  case rel => exact ⟨_, (false), (by first | rfl | (simp; done) | (simp [*]; done) | (simp; unfold wrap64; omega) | (congr 1; (try rw [Bool.eq_iff_iff]); simp [List.isEmpty_iff]; done)), H', ⟨by have := HJ5.out; have := HK2.out; first | omega | exact Nat.le_refl _⟩, ⟨bkT BK345.out⟩, ⟨bkT BK346.out⟩, ⟨hbT HB.out⟩⟩
              · rw [if_neg c26] at H
                have c26b0 : decide (x9_2 < (l1_2.length : Int)) = false := decide_eq_false c26
                clear c26
                (first | rw [c26b0] | (simp only [i64_w, i32_w, IntKind.wrap_u8, IntKind.wrap_u16, IntKind.wrap_u32]; rw [c26b0]) | skip)
                have H' := Aside0.mk H
                clear H; have hnb42 := NB346_345.out
                have hnc42 := NB345_346.out; have hcz43_0 : wr.cell? ⟨gb346, 0, none⟩ = some (.string a1_0) := (blk_cell BK346.out 0).trans rfl; have hcz43_1 : wr.cell? ⟨gb346, 1, none⟩ = some (.int .i64 a1_1) := (blk_cell BK346.out 1).trans rfl; have hcz43_2 : wr.cell? ⟨gb346, 2, none⟩ = some (.slice A1_2 l1_2.length c1_2) := (blk_cell BK346.out 2).trans rfl; have hfz43_0 := blk_frozen BK346.out 0; have hfz43_1 := blk_frozen BK346.out 1; have hfz43_2 := blk_frozen BK346.out 2
                go_wp2
                go_meet
                case rel => exact ⟨_, (x8_2), (by first | rfl | (simp; done) | (simp [*]; done) | (simp; unfold wrap64; omega) | (congr 1; (try rw [Bool.eq_iff_iff]); simp [List.isEmpty_iff]; done)), H', ⟨by have := HJ5.out; have := HK2.out; first | omega | exact Nat.le_refl _⟩, ⟨bkT BK345.out⟩, ⟨bkT BK346.out⟩, ⟨hbT HB.out⟩⟩
        case rest =>
          clear HC25
          try clear c1
          try clear c2
          try clear p2
          try clear c3
          try clear p3
          try clear q3
          try clear hx3
          try clear c4
          try clear c5
          try clear p6
          try clear c7
          try clear c10
          try clear c10b0
          try clear c10b1
          try clear c11
          try clear c11b0
          try clear c12
          try clear c12b0
          try clear c13
          try clear c16
          try clear c17
          try clear c19
          try clear c22
          try clear c26
          try clear c26b0
          try clear c27
          try clear c28
          try clear c28b0
          try clear c30
          try clear c31
          try clear c31b0
          try clear c32
          try clear p34
          try clear q34
          try clear hx34
          try clear p35
          try clear q35
          try clear hx35
          try clear c36
          try clear c40
          try clear c42
          try clear hcz14_0 hcz14_1 hcz14_2
          try clear hcz15_0 hcz15_1
          try clear hcz17_0 hcz17_1 hcz17_2
          try clear hcz18_0 hcz18_1
          try clear hcz20_0 hcz20_1 hcz20_2
          try clear hcz21_0 hcz21_1
          try clear hcz23_0 hcz23_1 hcz23_2
          try clear hcz24_0 hcz24_1
          try clear hcz33_0 hcz33_1 hcz33_2
          try clear hcz37_0 hcz37_1 hcz37_2
          try clear hcz41_0 hcz41_1 hcz41_2
          try clear hcz43_0 hcz43_1 hcz43_2
          try clear hfz14_0 hfz14_1 hfz14_2
          try clear hfz15_0 hfz15_1
          try clear hfz17_0 hfz17_1 hfz17_2
          try clear hfz18_0 hfz18_1
          try clear hfz20_0 hfz20_1 hfz20_2
          try clear hfz21_0 hfz21_1
          try clear hfz23_0 hfz23_1 hfz23_2
          try clear hfz24_0 hfz24_1
          try clear hfz33_0 hfz33_1 hfz33_2
          try clear hfz37_0 hfz37_1 hfz37_2
          try clear hfz41_0 hfz41_1 hfz41_2
          try clear hfz43_0 hfz43_1 hfz43_2
          try clear hx348_0
          try clear hx348_1
          try clear hx348_2
          try clear hx348_3
          try clear hx350_0
          try clear hx350_1
          try clear hx350_2
          try clear hx350_3
          try clear hx351_0
          try clear hx351_1
          try clear p2
          try clear p348
          try clear p350
          try clear p351
          try clear q348
          try clear q350
          try clear q351
          obtain ⟨kq, x8_24, rfl, HA, HJ24, BK345, BK346, HB⟩ := hcut
          cases kq with
          | zero => (have HA2 := HA.out; clear HA; revert HA2; rw [refrainlaw4_CsvCarries.j2_zero]; intro h_; cases h_)
          | succ kj24 =>
            have H := HA.out
            clear HA
            simp only [refrainlaw4_CsvCarries.j2] at H
            replace H := Option.bind_eq_some_iff.mp H
            obtain ⟨⟨t352, t355⟩, A440, H⟩ := H
            replace H : (if (x8_24 != (t355 == 0)) = true then (some false) else (if x8_24 = true then ((csv_Join.f (([t352] : List (List ByteArray)))).bind fun bt359 => (if bt359.2 = 0 then ((csv_Split.f bt359.1).bind fun bt361 => (if bt361.2.2 = 0 then (if (bt361.1.length : Int) = 1 then (if 0 < (bt361.1.length : Int) then ((refrainlaw4_sameRow.f kj24 (rd_L1 bt361.1 0) t352).bind fun t367 => (refrainlaw4_CsvCarries.j3 kj24 l2 bt361.1 (!t367) a0_0 l0_1 a1_0 a1_1 l1_2)) else (none)) else (refrainlaw4_CsvCarries.j3 kj24 l2 bt361.1 true a0_0 l0_1 a1_0 a1_1 l1_2)) else (refrainlaw4_CsvCarries.j3 kj24 l2 bt361.1 true a0_0 l0_1 a1_0 a1_1 l1_2))) else (if bt359.2 = 2 then (some (decide ((l1_2.length : Int) > 16))) else (some false)))) else (refrainlaw4_CsvCarries.j4 kj24 l2 a0_0 l0_1))) = some r := H
            have A44 := Aside0.mk A440
            clear A440
            by_cases c45 : (x8_24 != (t355 == 0)) = true
            · rw [if_pos c45] at H
              have c45b0 : (x8_24 != (t355 == 0)) = true := c45
              (try (have c45b1 : decide (x8_24 = (t355 == 0)) = false := by simpa using c45))
              (try (have c45b2 : (x8_24 == (t355 == 0)) = false := by simpa using c45))
              (try (have c45b3 : ¬ (x8_24 = (t355 == 0)) := by simpa using c45))
              clear c45
              obtain rfl := Option.some.inj H
              have hnb46 := NB345_346.out; have hnc46 := NB346_345.out; have hcz47_0 : wc.cell? ⟨gb345, 0, none⟩ = some (.string a0_0) := (blk_cell BK345.out 0).trans rfl; have hcz47_1 : wc.cell? ⟨gb345, 1, none⟩ = some (.slice A0_1 l0_1.length c0_1) := (blk_cell BK345.out 1).trans rfl; have hfz47_0 := blk_frozen BK345.out 0; have hfz47_1 := blk_frozen BK345.out 1; have hcz48_0 : wc.cell? ⟨gb346, 0, none⟩ = some (.string a1_0) := (blk_cell BK346.out 0).trans rfl; have hcz48_1 : wc.cell? ⟨gb346, 1, none⟩ = some (.int .i64 a1_1) := (blk_cell BK346.out 1).trans rfl; have hcz48_2 : wc.cell? ⟨gb346, 2, none⟩ = some (.slice A1_2 l1_2.length c1_2) := (blk_cell BK346.out 2).trans rfl; have hfz48_0 := blk_frozen BK346.out 0; have hfz48_1 := blk_frozen BK346.out 1; have hfz48_2 := blk_frozen BK346.out 2
              go_wp2_with (first | ((with_reducible refine gate_callee (f := 14) rfl ?_); refine goesT (some 85) Tryz.func14 #[.agg #[.string a0_0, .slice A0_1 l0_1.length c0_1], .agg #[.string a1_0, .int .i64 a1_1, .slice A1_2 l1_2.length c1_2]] ?_; (with_reducible refine (csv_Row.calls a0_0 _ _ l0_1 a1_0 a1_1 _ _ l1_2 t352 t355 _ ?side1 ?side2 ?side3 ?side4 ?side5 A44.out).mono ?_); (case side1 => repeat (first | exact (Kd.C_below HR0_1.out HB.out) | (with_reducible refine Kd.C_alloc ?_ _) | (with_reducible refine Kd.C_drewN ?_ _) | (with_reducible refine Kd.C_drew ?_))); (case side2 => exact HC0_1.out); (case side3 => repeat (first | exact (Kd.C_below HR1_2.out HB.out) | (with_reducible refine Kd.C_alloc ?_ _) | (with_reducible refine Kd.C_drewN ?_ _) | (with_reducible refine Kd.C_drew ?_))); (case side4 => exact HC1_2.out); (case side5 => first | (with_reducible exact HL_LG0) | exact ⟨LG0.below HL_LG0.out (hbT HB.out)⟩); rintro e w49 ⟨v353, rfl, ho0, hb⟩; refine ⟨_, rfl, ?_⟩; have HO354 := Aside0.mk (Kd.R_lower ho0 (below_size (hbT HB.out))); replace BK345 := bbA BK345 hb; replace BK346 := bbA BK346 hb; replace HB := bsA HB hb; (try clear hb); (try clear hb2); (try clear hk); (try clear hi); (try clear ho0)))
              go_ret
              exact ⟨by first | rfl | (simp [errW_none, errW_some] <;> rfl) | (simp [*, errW_none, errW_some] <;> rfl), hbT HB.out⟩
            · rw [if_neg c45] at H
              have c45b0 : (x8_24 != (t355 == 0)) = false := by simpa using c45
              (try (have c45b1 : decide (x8_24 = (t355 == 0)) = true := by simpa using c45))
              (try (have c45b2 : (x8_24 == (t355 == 0)) = true := by simpa using c45))
              clear c45
              have HC50 := Aside0.mk H
              clear H; have hnb51 := NB345_346.out
              have hnc51 := NB346_345.out; have hcz52_0 : wc.cell? ⟨gb345, 0, none⟩ = some (.string a0_0) := (blk_cell BK345.out 0).trans rfl; have hcz52_1 : wc.cell? ⟨gb345, 1, none⟩ = some (.slice A0_1 l0_1.length c0_1) := (blk_cell BK345.out 1).trans rfl; have hfz52_0 := blk_frozen BK345.out 0; have hfz52_1 := blk_frozen BK345.out 1; have hcz53_0 : wc.cell? ⟨gb346, 0, none⟩ = some (.string a1_0) := (blk_cell BK346.out 0).trans rfl; have hcz53_1 : wc.cell? ⟨gb346, 1, none⟩ = some (.int .i64 a1_1) := (blk_cell BK346.out 1).trans rfl; have hcz53_2 : wc.cell? ⟨gb346, 2, none⟩ = some (.slice A1_2 l1_2.length c1_2) := (blk_cell BK346.out 2).trans rfl; have hfz53_0 := blk_frozen BK346.out 0; have hfz53_1 := blk_frozen BK346.out 1; have hfz53_2 := blk_frozen BK346.out 2
              go_upto_if 92 with (first | ((with_reducible refine gate_callee (f := 14) rfl ?_); refine goesT (some 85) Tryz.func14 #[.agg #[.string a0_0, .slice A0_1 l0_1.length c0_1], .agg #[.string a1_0, .int .i64 a1_1, .slice A1_2 l1_2.length c1_2]] ?_; (with_reducible refine (csv_Row.calls a0_0 _ _ l0_1 a1_0 a1_1 _ _ l1_2 t352 t355 _ ?side1 ?side2 ?side3 ?side4 ?side5 A44.out).mono ?_); (case side1 => repeat (first | exact (Kd.C_below HR0_1.out HB.out) | (with_reducible refine Kd.C_alloc ?_ _) | (with_reducible refine Kd.C_drewN ?_ _) | (with_reducible refine Kd.C_drew ?_))); (case side2 => exact HC0_1.out); (case side3 => repeat (first | exact (Kd.C_below HR1_2.out HB.out) | (with_reducible refine Kd.C_alloc ?_ _) | (with_reducible refine Kd.C_drewN ?_ _) | (with_reducible refine Kd.C_drew ?_))); (case side4 => exact HC1_2.out); (case side5 => first | (with_reducible exact HL_LG0) | exact ⟨LG0.below HL_LG0.out (hbT HB.out)⟩); rintro e w54 ⟨v353, rfl, ho0, hb⟩; refine ⟨_, rfl, ?_⟩; have HO354 := Aside0.mk (Kd.R_lower ho0 (below_size (hbT HB.out))); replace BK345 := bbA BK345 hb; replace BK346 := bbA BK346 hb; replace HB := bsA HB hb; (try clear hb); (try clear hb2); (try clear hk); (try clear hi); (try clear ho0)))
              (try simp only [Act.put, List.setIfInBounds_toArray, List.set_cons_zero, List.set_cons_succ])
              go_cut [] (fun wc => ∃ (kq : Nat), Aside0 (refrainlaw4_CsvCarries.j4 kq l2 a0_0 l0_1 = some r) ∧ Aside0 (kq ≤ kj24) ∧ Aside0 (wc.heap[gb345]? = some (.cells #[.string a0_0, (.slice A0_1 l0_1.length c0_1)] 24 (0, 0))) ∧ Aside0 (wc.heap[gb346]? = some (.cells #[.string a1_0, .int .i64 a1_1, (.slice A1_2 l1_2.length c1_2)] 35 (0, 0))) ∧ Aside0 (Below w.heap.size w wc))
              case first =>
                have H := HC50.out
                clear HC50
                by_cases c55 : x8_24 = true
                · subst c55
                  have H1 : ((csv_Join.f (([t352] : List (List ByteArray)))).bind fun bt359 => (if bt359.2 = 0 then ((csv_Split.f bt359.1).bind fun bt361 => (if bt361.2.2 = 0 then (if (bt361.1.length : Int) = 1 then (if 0 < (bt361.1.length : Int) then ((refrainlaw4_sameRow.f kj24 (rd_L1 bt361.1 0) t352).bind fun t367 => (refrainlaw4_CsvCarries.j3 kj24 l2 bt361.1 (!t367) a0_0 l0_1 a1_0 a1_1 l1_2)) else (none)) else (refrainlaw4_CsvCarries.j3 kj24 l2 bt361.1 true a0_0 l0_1 a1_0 a1_1 l1_2)) else (refrainlaw4_CsvCarries.j3 kj24 l2 bt361.1 true a0_0 l0_1 a1_0 a1_1 l1_2))) else (if bt359.2 = 2 then (some (decide ((l1_2.length : Int) > 16))) else (some false)))) = some r := by rw [if_pos rfl] at H; exact H
                  clear H
                  have H := H1
                  clear H1
                  obtain ⟨y356, hy356⟩ : ∃ y_ : List (List ByteArray), y_ = (([t352] : List (List ByteArray))) := ⟨_, rfl⟩
                  replace H : ((csv_Join.f y356).bind fun bt359 => (if bt359.2 = 0 then ((csv_Split.f bt359.1).bind fun bt361 => (if bt361.2.2 = 0 then (if (bt361.1.length : Int) = 1 then (if 0 < (bt361.1.length : Int) then ((refrainlaw4_sameRow.f kj24 (rd_L1 bt361.1 0) t352).bind fun t367 => (refrainlaw4_CsvCarries.j3 kj24 l2 bt361.1 (!t367) a0_0 l0_1 a1_0 a1_1 l1_2)) else (none)) else (refrainlaw4_CsvCarries.j3 kj24 l2 bt361.1 true a0_0 l0_1 a1_0 a1_1 l1_2)) else (refrainlaw4_CsvCarries.j3 kj24 l2 bt361.1 true a0_0 l0_1 a1_0 a1_1 l1_2))) else (if bt359.2 = 2 then (some (decide ((l1_2.length : Int) > 16))) else (some false)))) = some r := by first | (rw [hy356]; with_reducible exact H) | (have H2_ := (Option.bind_some _ _).symm.trans H; rw [hy356]; with_reducible exact H2_) | (have H2_ := (Option.bind_some _ _).symm.trans H; with_reducible exact H2_) | with_reducible exact H | (rw [hy356]; exact H) | exact H
                  have Ny356 := Aside0.mk hy356
                  clear hy356
                  replace H := Option.bind_eq_some_iff.mp H
                  obtain ⟨⟨t359, t360⟩, A560, H⟩ := H
                  replace H : (if t360 = 0 then ((csv_Split.f t359).bind fun bt361 => (if bt361.2.2 = 0 then (if (bt361.1.length : Int) = 1 then (if 0 < (bt361.1.length : Int) then ((refrainlaw4_sameRow.f kj24 (rd_L1 bt361.1 0) t352).bind fun t367 => (refrainlaw4_CsvCarries.j3 kj24 l2 bt361.1 (!t367) a0_0 l0_1 a1_0 a1_1 l1_2)) else (none)) else (refrainlaw4_CsvCarries.j3 kj24 l2 bt361.1 true a0_0 l0_1 a1_0 a1_1 l1_2)) else (refrainlaw4_CsvCarries.j3 kj24 l2 bt361.1 true a0_0 l0_1 a1_0 a1_1 l1_2))) else (if t360 = 2 then (some (decide ((l1_2.length : Int) > 16))) else (some false))) = some r := H
                  have A56 := Aside0.mk A560
                  clear A560
                  by_cases c57 : t360 = 0
                  · rw [if_pos c57] at H
                    have c57b0 : (t360 == 0) = true := beq_iff_eq.mpr c57
                    have c57b1 : (t360 != 0) = false := bne_eq_false_iff_eq.mpr c57
                    clear c57
                    (first | rw [c57b0] | (simp only [i64_w, i32_w, IntKind.wrap_u8, IntKind.wrap_u16, IntKind.wrap_u32]; rw [c57b0]) | skip)
                    replace H := Option.bind_eq_some_iff.mp H
                    obtain ⟨⟨t361, t362, t363⟩, A580, H⟩ := H
                    replace H : (if t363 = 0 then (if (t361.length : Int) = 1 then (if 0 < (t361.length : Int) then ((refrainlaw4_sameRow.f kj24 (rd_L1 t361 0) t352).bind fun t367 => (refrainlaw4_CsvCarries.j3 kj24 l2 t361 (!t367) a0_0 l0_1 a1_0 a1_1 l1_2)) else (none)) else (refrainlaw4_CsvCarries.j3 kj24 l2 t361 true a0_0 l0_1 a1_0 a1_1 l1_2)) else (refrainlaw4_CsvCarries.j3 kj24 l2 t361 true a0_0 l0_1 a1_0 a1_1 l1_2)) = some r := H
                    have A58 := Aside0.mk A580
                    clear A580
                    have HC59 := Aside0.mk H
                    clear H
                    obtain ⟨Ao60, co60, eo60⟩ := Kd.R_slice HO354.out
                    subst eo60
                    go_upto_region 18 with (first | ((with_reducible refine gate_dst (N := 95) rfl ?_); (try (refine gate_guard (by rfl) ?_; dsimp only)); refine Kd.N_lit (Kd.slice 9 Kd.string) _ 39 ?hg (N' := 95) ?hd (xs := ([t352] : List (List ByteArray))) (inner := [.slice Ao60 t352.length co60]) (ok := (fun k_ => k_ ≠ gb345 ∧ k_ ≠ gb346)) (okp := (fun k_ => k_ ≠ gb345 ∧ k_ ≠ gb346)) ?hr ?hp (fun _ hk => hk) ((show ∀ k_, w54.heap.size ≤ k_ → (fun k_ => k_ ≠ gb345 ∧ k_ ≠ gb346) k_ from fun k_ hk => ⟨Kd.freshB (g := gb345) (o := .cells #[.string a0_0, .slice A0_1 l0_1.length c0_1] 24 (0, 0)) (bkT BK345.out) k_ hk, Kd.freshB (g := gb346) (o := .cells #[.string a1_0, .int .i64 a1_1, .slice A1_2 l1_2.length c1_2] 35 (0, 0)) (bkT BK346.out) k_ hk⟩) _ (Nat.le_refl _)) (Below.refl _ _) (Nat.le_refl _) (by simp) ?_; (case hd => rfl); (case hg => rfl); (case hr => first | (go_simp; done) | (go_simp; rfl)); (case hp => exact (Reps.one (show Kd.FK (Kd.slice 9 Kd.string) _ _ t352 [.slice Ao60 t352.length co60] from (Kd.FK_slice_mk (Kd.R_reads' (Kd.R_mono (ok' := (fun k_ => k_ ≠ gb345 ∧ k_ ≠ gb346)) (Kd.R_types (Kd.R_types (HO354.out) BK345.out (by decide)) BK346.out (by decide)) (fun k_ hk => ⟨hk.1.2, hk.2⟩))).2.1 (Kd.R_F (Kd.R_mono (ok' := (fun k_ => k_ ≠ gb345 ∧ k_ ≠ gb346)) (Kd.R_types (Kd.R_types (HO354.out) BK345.out (by decide)) BK346.out (by decide)) (fun k_ hk => ⟨hk.1.2, hk.2⟩))))) (Reps.none _ _))); intro v357 w61 ho62 hb hg_ hnew_; clear hg_ hnew_; (first | rw [← Ny356.out] at ho62 | (simp only [Int.reduceToNat] at ho62; rw [← Ny356.out] at ho62)); have n0_ := Aside0.mk (Kd.N_lower ho62 (below_size (hbT HB.out))); have n1_ := Aside0.mk (bbT BK345.out hb); have n2_ := Aside0.mk (bbT BK346.out hb); have n3_ := Aside0.mk (below_step (hbT HB.out) hb); clear BK345; clear BK346; have n9_ := Aside0.mk (Kd.R_below HO354.out hb); clear HB; clear HO354; have HO354 := n9_; clear n9_; have HO358 := n0_; have BK345 := n1_; have BK346 := n2_; have HB := n3_; clear n0_ n1_ n2_ n3_; clear hb ho62; obtain ⟨Ao63, co63, eo63⟩ := Kd.N_slice HO358.out; subst eo63) | ((with_reducible refine gate_callee (f := 18) rfl ?_); refine goesT (some 96) Tryz.func18 #[.slice Ao63 y356.length co63] ?_; (with_reducible refine (csv_Join.calls _ _ y356 t359 t360 _ ?side1 ?side2 ?side3 A56.out).mono ?_); (case side1 => repeat (first | exact (Kd.N_reads' HO358.out).2.2 | (with_reducible refine Kd.C_alloc ?_ _) | (with_reducible refine Kd.C_drewN ?_ _) | (with_reducible refine Kd.C_drew ?_))); (case side2 => exact (Kd.N_reads' HO358.out).2.1); (case side3 => first | (with_reducible exact HL_LMax) | exact ⟨LMax.below HL_LMax.out (hbT HB.out)⟩); rintro e w64 ⟨rfl, hb⟩; refine ⟨_, rfl, ?_⟩; replace HO358 := Aside0.mk (Kd.N_below (by (with_reducible repeat (first | apply Kd.N_alloc | apply Kd.N_drewN | apply Kd.N_drew)); exact HO358.out) hb); replace BK345 := bbA BK345 hb; replace BK346 := bbA BK346 hb; replace HB := bsA HB hb; (try replace HO354 := Aside0.mk (Kd.R_below HO354.out hb)); (try clear hb); (try clear hb2); (try clear hk); (try clear hi)) | ((with_reducible refine gate_callee (f := 19) rfl ?_); refine goesT (some 111) Tryz.func19 #[.string t359] ?_; (with_reducible refine (csv_Split.calls t359 t361 t362 t363 _ A58.out).mono ?_); rintro e w65 ⟨v364, rfl, ho0, hb⟩; refine ⟨_, rfl, ?_⟩; have HO365 := Aside0.mk (Kd.N_lower (Kd.N_mono (ok' := fun k_ => some k_ ≠ (.slice Ao63 y356.length co63 : Value).ownBlock ∧ k_ ≠ gb345 ∧ k_ ≠ gb346) (Kd.S_N (Kd.S_bound ho0)) (fun k_ hk_ => ⟨(Kd.fresh' (Kd.N_lt (by (with_reducible repeat (first | apply Kd.N_alloc | apply Kd.N_drewN | apply Kd.N_drew)); exact HO358.out)) k_ hk_.2.1), (Kd.freshB (g := gb345) (o := .cells #[.string a0_0, .slice A0_1 l0_1.length c0_1] 24 (0, 0)) (bkT BK345.out) k_ hk_.2.1), (Kd.freshB (g := gb346) (o := .cells #[.string a1_0, .int .i64 a1_1, .slice A1_2 l1_2.length c1_2] 35 (0, 0)) (bkT BK346.out) k_ hk_.2.1)⟩)) (below_size (hbT HB.out))); replace HO358 := Aside0.mk (Kd.N_elder' (by (with_reducible repeat (first | apply Kd.N_alloc | apply Kd.N_drewN | apply Kd.N_drew)); exact HO358.out) (by first | exact Kd.S_base ho0 | exact Kd.N_base ho0) hb); replace BK345 := bbA BK345 hb; replace BK346 := bbA BK346 hb; replace HB := bsA HB hb; (try replace HO354 := Aside0.mk (Kd.R_below HO354.out hb)); (try clear hb); (try clear hb2); (try clear hk); (try clear hi); (try clear ho0)))
                    (try simp only [Act.put, List.setIfInBounds_toArray, List.set_cons_zero, List.set_cons_succ])
                    go_cut [129] (fun v129 wc => ∃ (kq : Nat) (x129_58 : Bool), v129 = .bool x129_58 ∧ Aside0 (refrainlaw4_CsvCarries.j3 kq l2 t361 x129_58 a0_0 l0_1 a1_0 a1_1 l1_2 = some r) ∧ Aside0 (kq ≤ kj24) ∧ Aside0 (Kd.N (Kd.slice 9 Kd.string) 39 wc w.heap.size (fun k_ => k_ ≠ gb345 ∧ k_ ≠ gb346) v364 t361) ∧ Aside0 (wc.heap[gb345]? = some (.cells #[.string a0_0, (.slice A0_1 l0_1.length c0_1)] 24 (0, 0))) ∧ Aside0 (wc.heap[gb346]? = some (.cells #[.string a1_0, .int .i64 a1_1, (.slice A1_2 l1_2.length c1_2)] 35 (0, 0))) ∧ Aside0 (Below w.heap.size w wc))
                    case first =>
                      have H := HC59.out
                      clear HC59
                      by_cases c66 : t363 = 0
                      · rw [if_pos c66] at H
                        have c66b0 : (t363 == 0) = true := beq_iff_eq.mpr c66
                        have c66b1 : (t363 != 0) = false := bne_eq_false_iff_eq.mpr c66
                        clear c66
                        (first | rw [c66b0] | (simp only [i64_w, i32_w, IntKind.wrap_u8, IntKind.wrap_u16, IntKind.wrap_u32]; rw [c66b0]) | skip)
                        by_cases c67 : (t361.length : Int) = 1
                        · rw [if_pos c67] at H
                          have c67b0 : ((t361.length : Int) == 1) = true := beq_iff_eq.mpr c67
                          have c67b1 : ((t361.length : Int) != 1) = false := bne_eq_false_iff_eq.mpr c67
                          clear c67
                          by_cases c68 : 0 < (t361.length : Int)
                          · rw [if_pos c68] at H
                            have c68b0 : decide (0 < (t361.length : Int)) = true := decide_eq_true c68
                            have c68b1 : decide (0 < t361.length) = true := decide_eq_true (by omega)
                            clear c68
                            replace H := Option.bind_eq_some_iff.mp H
                            obtain ⟨t367, A690, H⟩ := H
                            replace H : (refrainlaw4_CsvCarries.j3 kj24 l2 t361 (!t367) a0_0 l0_1 a1_0 a1_1 l1_2) = some r := H
                            have A69 := Aside0.mk A690
                            clear A690
                            have H' := Aside0.mk H
                            clear H
                            obtain ⟨Ao70, co70, eo70⟩ := Kd.N_slice HO365.out
                            subst eo70
                            have p366 : 0 ≤ (0 : Int) := (by omega)
                            have q366 : 0 < (t361.length : Int) := of_decide_eq_true (by first | (with_reducible assumption) | assumption)
                            obtain ⟨ad366, A366_0, c366_0, e366, hx366_0, hl366_0, hi366_0⟩ := at_L1 (Kd.N_reads' HO365.out).2.2 0 p366 q366
                            cases e366
                            obtain ⟨ce366, hce366, hMe366, hcc366⟩ := Kd.N_get HO365.out [] 0 p366 (by first | exact q366 | exact of_decide_eq_true (by first | (with_reducible assumption) | assumption) | (have e_ := (Kd.N_reads' HO365.out).1; omega))
                            obtain ⟨ua366_0, uc366_0, rfl, ul366_0, ge366_0⟩ := Kd.FK_slice_open hMe366
                            have hv366_0 := hcc366 0 _ rfl
                            rw [Nat.add_zero, show ((Kd.slice 9 Kd.string)).sz = 1 from rfl, Nat.mul_one] at hv366_0
                            replace hv366_0 := Option.some.inj (hv366_0.symm.trans hx366_0)
                            injection hv366_0 with hva_ hvn_ hvc_
                            rw [hva_] at ge366_0
                            rw [hvc_] at ul366_0
                            have HL366_0 := Aside0.mk (show Kd.V Kd.string 9 _ w.heap.size _ _ (rd_L1 t361 0) from Kd.V_mk ul366_0 ge366_0)
                            clear hva_ hvn_ hvc_ ge366_0 ul366_0
                            clear hcc366 hce366
                            have qi366 : (0 < t361.length) = True := eq_true (by omega)
                            (try rw [show ((0 : Int)).toNat = 0 from rfl] at hx366_0)
                            (try rw [Addr.add_zero'] at hx366_0)
                            have HR366_0 := Aside0.mk hi366_0
                            have HC366_0 := Aside0.mk hl366_0
                            clear hi366_0 hl366_0
                            replace p366 := eq_true p366
                            replace q366 := eq_true q366
                            go_wp2_with (first | (go_at_call 16; (with_reducible refine (refrainlaw4_sameRow.calls kj24 _ _ (rd_L1 t361 0) _ _ t352 t367 _ ?side1 ?side2 ?side3 ?side4 A69.out).mono ?_); (case side1 => repeat (first | exact (by repeat (first | (with_reducible exact HR366_0.out) | (with_reducible refine Kd.C_alloc ?_ _) | (with_reducible refine Kd.C_drewN ?_ _) | (with_reducible refine Kd.C_drew ?_) | exact HR366_0.out)) | (with_reducible refine Kd.C_alloc ?_ _) | (with_reducible refine Kd.C_drewN ?_ _) | (with_reducible refine Kd.C_drew ?_))); (case side2 => exact HC366_0.out); (case side3 => repeat (first | exact (Kd.R_reads' HO354.out).2.2 | (with_reducible refine Kd.C_alloc ?_ _) | (with_reducible refine Kd.C_drewN ?_ _) | (with_reducible refine Kd.C_drew ?_))); (case side4 => exact (Kd.R_reads' HO354.out).2.1); rintro e w' ⟨rfl, ⟨nd, rfl⟩⟩))
                            go_meet
                            case rel => exact ⟨_, (!t367), (by first | rfl | (simp; done) | (simp [*]; done) | (simp; unfold wrap64; omega) | (congr 1; (try rw [Bool.eq_iff_iff]); simp [List.isEmpty_iff]; done)), H', ⟨by have := HJ5.out; have := HJ24.out; first | omega | exact Nat.le_refl _⟩, ⟨by (with_reducible repeat (first | apply Kd.N_alloc | apply Kd.N_drewN | apply Kd.N_drew)); exact Kd.N_mono HO365.out (fun _ hk => ⟨hk.2.1, hk.2.2⟩)⟩, ⟨bkT BK345.out⟩, ⟨bkT BK346.out⟩, ⟨hbT HB.out⟩⟩
                          · rw [if_neg c68] at H
                            exact absurd H (by simp)
                        · rw [if_neg c67] at H
                          have c67b0 : ((t361.length : Int) == 1) = false := beq_eq_false_iff_ne.mpr c67
                          have c67b1 : ((t361.length : Int) != 1) = true := bne_iff_ne.mpr c67
                          have H' := Aside0.mk H
                          clear H
                          obtain ⟨Ao71, co71, eo71⟩ := Kd.N_slice HO365.out
                          subst eo71
                          go_wp2
                          go_meet
                          case rel => exact ⟨_, (true), (by first | rfl | (simp; done) | (simp [*]; done) | (simp; unfold wrap64; omega) | (congr 1; (try rw [Bool.eq_iff_iff]); simp [List.isEmpty_iff]; done)), H', ⟨by have := HJ5.out; have := HJ24.out; first | omega | exact Nat.le_refl _⟩, ⟨by (with_reducible repeat (first | apply Kd.N_alloc | apply Kd.N_drewN | apply Kd.N_drew)); exact Kd.N_mono HO365.out (fun _ hk => ⟨hk.2.1, hk.2.2⟩)⟩, ⟨bkT BK345.out⟩, ⟨bkT BK346.out⟩, ⟨hbT HB.out⟩⟩
                      · rw [if_neg c66] at H
                        have c66b0 : (t363 == 0) = false := beq_eq_false_iff_ne.mpr c66
                        have c66b1 : (t363 != 0) = true := bne_iff_ne.mpr c66
                        (first | rw [c66b0] | (simp only [i64_w, i32_w, IntKind.wrap_u8, IntKind.wrap_u16, IntKind.wrap_u32]; rw [c66b0]) | skip)
                        have H' := Aside0.mk H
                        clear H
                        go_wp2
                        go_meet
                        case rel => exact ⟨_, (true), (by first | rfl | (simp; done) | (simp [*]; done) | (simp; unfold wrap64; omega) | (congr 1; (try rw [Bool.eq_iff_iff]); simp [List.isEmpty_iff]; done)), H', ⟨by have := HJ5.out; have := HJ24.out; first | omega | exact Nat.le_refl _⟩, ⟨by (with_reducible repeat (first | apply Kd.N_alloc | apply Kd.N_drewN | apply Kd.N_drew)); exact Kd.N_mono HO365.out (fun _ hk => ⟨hk.2.1, hk.2.2⟩)⟩, ⟨bkT BK345.out⟩, ⟨bkT BK346.out⟩, ⟨hbT HB.out⟩⟩
                    case rest =>
                      clear HC59
                      try clear c1
                      try clear c2
                      try clear p2
                      try clear c3
                      try clear p3
                      try clear q3
                      try clear hx3
                      try clear qi3
                      try clear c4
                      try clear c5
                      try clear c6
                      try clear p6
                      try clear c7
                      try clear c10
                      try clear c10b0
                      try clear c10b1
                      try clear c11
                      try clear c11b0
                      try clear c12
                      try clear c12b0
                      try clear c13
                      try clear c14
                      try clear c16
                      try clear c17
                      try clear c18
                      try clear c19
                      try clear c22
                      try clear c26
                      try clear c26b0
                      try clear c27
                      try clear c28
                      try clear c28b0
                      try clear c30
                      try clear c31
                      try clear c31b0
                      try clear c32
                      try clear p34
                      try clear q34
                      try clear hx34
                      try clear p35
                      try clear q35
                      try clear hx35
                      try clear c36
                      try clear p36
                      try clear q36
                      try clear hx36
                      try clear qi36
                      try clear c40
                      try clear c42
                      try clear c45
                      try clear c45b0
                      try clear c45b1
                      try clear c45b2
                      try clear c46
                      try clear c51
                      try clear c55
                      try clear c57
                      try clear c57b0
                      try clear c57b1
                      try clear p64
                      try clear c66
                      try clear c66b0
                      try clear c66b1
                      try clear c67
                      try clear c67b0
                      try clear c67b1
                      try clear c68
                      try clear c68b0
                      try clear c68b1
                      try clear hcz14_0 hcz14_1 hcz14_2
                      try clear hcz15_0 hcz15_1
                      try clear hcz17_0 hcz17_1 hcz17_2
                      try clear hcz18_0 hcz18_1
                      try clear hcz20_0 hcz20_1 hcz20_2
                      try clear hcz21_0 hcz21_1
                      try clear hcz23_0 hcz23_1 hcz23_2
                      try clear hcz24_0 hcz24_1
                      try clear hcz33_0 hcz33_1 hcz33_2
                      try clear hcz37_0 hcz37_1 hcz37_2
                      try clear hcz41_0 hcz41_1 hcz41_2
                      try clear hcz43_0 hcz43_1 hcz43_2
                      try clear hcz47_0 hcz47_1
                      try clear hcz48_0 hcz48_1 hcz48_2
                      try clear hcz52_0 hcz52_1
                      try clear hcz53_0 hcz53_1 hcz53_2
                      try clear hfz14_0 hfz14_1 hfz14_2
                      try clear hfz15_0 hfz15_1
                      try clear hfz17_0 hfz17_1 hfz17_2
                      try clear hfz18_0 hfz18_1
                      try clear hfz20_0 hfz20_1 hfz20_2
                      try clear hfz21_0 hfz21_1
                      try clear hfz23_0 hfz23_1 hfz23_2
                      try clear hfz24_0 hfz24_1
                      try clear hfz33_0 hfz33_1 hfz33_2
                      try clear hfz37_0 hfz37_1 hfz37_2
                      try clear hfz41_0 hfz41_1 hfz41_2
                      try clear hfz43_0 hfz43_1 hfz43_2
                      try clear hfz47_0 hfz47_1
                      try clear hfz48_0 hfz48_1 hfz48_2
                      try clear hfz52_0 hfz52_1
                      try clear hfz53_0 hfz53_1 hfz53_2
                      try clear hx348_0
                      try clear hx348_1
                      try clear hx348_2
                      try clear hx348_3
                      try clear hx350_0
                      try clear hx350_1
                      try clear hx350_2
                      try clear hx350_3
                      try clear hx351_0
                      try clear hx351_1
                      try clear hx366_0
                      try clear p2
                      try clear p3
                      try clear p34
                      try clear p348
                      try clear p35
                      try clear p350
                      try clear p351
                      try clear p366
                      try clear p6
                      try clear q3
                      try clear q34
                      try clear q348
                      try clear q35
                      try clear q350
                      try clear q351
                      try clear q366
                      obtain ⟨kq, x129_58, rfl, HA, HJ58, HO_15, BK345, BK346, HB⟩ := hcut
                      cases kq with
                      | zero => (have HA2 := HA.out; clear HA; revert HA2; rw [refrainlaw4_CsvCarries.j3_zero]; intro h_; cases h_)
                      | succ kj58 =>
                        have H := HA.out
                        clear HA
                        simp only [refrainlaw4_CsvCarries.j3] at H
                        by_cases c72 : x129_58 = true
                        · subst c72
                          have H1 : (some false) = some r := by rw [if_pos rfl] at H; exact H
                          clear H
                          have H := H1
                          clear H1
                          obtain rfl := Option.some.inj H
                          go_wp2
                          go_ret
                          exact ⟨by first | rfl | (simp [errW_none, errW_some] <;> rfl) | (simp [*, errW_none, errW_some] <;> rfl), hbT HB.out⟩
                        · replace c72 := Bool.eq_false_iff.mpr c72
                          subst c72
                          have H1 : (if 0 < (t361.length : Int) then ((csv_Event.f a0_0 l0_1 (rd_L1 t361 0)).bind fun bt369 => (if bt369.2.2.2 = 0 then ((refrainlaw4_sameEvent.f kj58 bt369.1 bt369.2.1 bt369.2.2.1 a1_0 a1_1 l1_2).bind fun t376 => (if t376 = true then (refrainlaw4_CsvCarries.j4 kj58 l2 a0_0 l0_1) else (some false))) else (some false))) else (none)) = some r := by rw [if_neg (show ¬ (false = true) by decide)] at H; exact H
                          clear H
                          have H := H1
                          clear H1
                          by_cases c73 : 0 < (t361.length : Int)
                          · rw [if_pos c73] at H
                            have c73b0 : decide (0 < (t361.length : Int)) = true := decide_eq_true c73
                            have c73b1 : decide (0 < t361.length) = true := decide_eq_true (by omega)
                            clear c73
                            replace H := Option.bind_eq_some_iff.mp H
                            obtain ⟨⟨t369, t370, t371, t374⟩, A740, H⟩ := H
                            replace H : (if t374 = 0 then ((refrainlaw4_sameEvent.f kj58 t369 t370 t371 a1_0 a1_1 l1_2).bind fun t376 => (if t376 = true then (refrainlaw4_CsvCarries.j4 kj58 l2 a0_0 l0_1) else (some false))) else (some false)) = some r := H
                            have A74 := Aside0.mk A740
                            clear A740
                            by_cases c75 : t374 = 0
                            · rw [if_pos c75] at H
                              have c75b0 : (t374 == 0) = true := beq_iff_eq.mpr c75
                              have c75b1 : (t374 != 0) = false := bne_eq_false_iff_eq.mpr c75
                              clear c75
                              replace H := Option.bind_eq_some_iff.mp H
                              obtain ⟨t376, A760, H⟩ := H
                              replace H : (if t376 = true then (refrainlaw4_CsvCarries.j4 kj58 l2 a0_0 l0_1) else (some false)) = some r := H
                              have A76 := Aside0.mk A760
                              clear A760
                              by_cases c77 : t376 = true
                              · subst c77
                                have H1 : (refrainlaw4_CsvCarries.j4 kj58 l2 a0_0 l0_1) = some r := by rw [if_pos rfl] at H; exact H
                                clear H
                                have H := H1
                                clear H1
                                have H' := Aside0.mk H
                                clear H
                                try go_wp2
                                replace HO_15 := Aside0.mk (Kd.N_drew HO_15.out); replace BK345 := bdA BK345; replace BK346 := bdA BK346; replace HB := Aside0.mk (below_drew1 HB.out)
                                obtain ⟨Ao79, co79, eo79⟩ := Kd.N_slice HO_15.out
                                (first | subst eo79 | (injection eo79 with f1_ f2_ f3_; have f4_ := f1_.symm; have f5_ := f3_.symm; clear f1_ f2_ f3_; subst f4_; subst f5_))
                                have p368 : 0 ≤ (0 : Int) := (by omega)
                                have q368 : 0 < (t361.length : Int) := of_decide_eq_true (by first | (with_reducible assumption) | assumption)
                                obtain ⟨ad368, A368_0, c368_0, e368, hx368_0, hl368_0, hi368_0⟩ := at_L1 (Kd.N_reads' HO_15.out).2.2 0 p368 q368
                                cases e368
                                obtain ⟨ce368, hce368, hMe368, hcc368⟩ := Kd.N_get HO_15.out [] 0 p368 (by first | exact q368 | exact of_decide_eq_true (by first | (with_reducible assumption) | assumption) | (have e_ := (Kd.N_reads' HO_15.out).1; omega))
                                obtain ⟨ua368_0, uc368_0, rfl, ul368_0, ge368_0⟩ := Kd.FK_slice_open hMe368
                                have hv368_0 := hcc368 0 _ rfl
                                rw [Nat.add_zero, show ((Kd.slice 9 Kd.string)).sz = 1 from rfl, Nat.mul_one] at hv368_0
                                replace hv368_0 := Option.some.inj (hv368_0.symm.trans hx368_0)
                                injection hv368_0 with hva_ hvn_ hvc_
                                rw [hva_] at ge368_0
                                rw [hvc_] at ul368_0
                                have HL368_0 := Aside0.mk (show Kd.V Kd.string 9 _ w.heap.size _ _ (rd_L1 t361 0) from Kd.V_mk ul368_0 ge368_0)
                                clear hva_ hvn_ hvc_ ge368_0 ul368_0
                                clear hcc368 hce368
                                have qi368 : (0 < t361.length) = True := eq_true (by omega)
                                (try rw [show ((0 : Int)).toNat = 0 from rfl] at hx368_0)
                                (try rw [Addr.add_zero'] at hx368_0)
                                have HR368_0 := Aside0.mk hi368_0
                                have HC368_0 := Aside0.mk hl368_0
                                clear hi368_0 hl368_0
                                replace p368 := eq_true p368
                                replace q368 := eq_true q368
                                refine start_ (n := 11) (S := fun w' => w'.cell? ⟨gb345, 0, none⟩ = some (.string a0_0) ∧ w'.cell? ⟨gb345, 1, none⟩ = some (.slice A0_1 l0_1.length c0_1) ∧ w'.cell? ad368 = some (.slice A368_0 (rd_L1 t361 0).length c368_0)) (ds := []) #[false, false, false, false, false, false, false, false, false, false, false] (by kernel_rfl) rfl rfl ⟨(blk_cell BK345.out 0).trans rfl, (blk_cell BK345.out 1).trans rfl, hx368_0⟩ (fun hHeld => ?_); refine with_tabW refrainlaw4_CsvCarries.tab20 refrainlaw4_CsvCarries.bits20 (fun HT_ HW_ => ?_)
                                generalize wc.drew = w78 at HO_15 BK345 BK346 HB HL368_0 HR368_0 hx368_0 hHeld ⊢
                                refine pure_ (i := 1) (N := some 132) (v := ?_) (a' := ?_) #[false, true, false, false, false, false, false, false, false, false, false] rfl rfl (any_of HT_.out (by kernel_rfl)) (fun _ _ _ h => h) (Or.inl ⟨by rfl, ?_⟩) ?_ ?_
                                rotate_left; (focus (intro w'; go_simp; with_reducible rfl)); rotate_left; (focus (simp only [Act.put, List.setIfInBounds_toArray, List.set_cons_zero, List.set_cons_succ, i64_w, i32_w, IntKind.wrap_u8, IntKind.wrap_u16, IntKind.wrap_u32]; rfl))
                                refine pure_ (i := 2) (N := some 133) (v := ?_) (a' := ?_) #[false, true, true, false, false, false, false, false, false, false, false] rfl rfl (any_of HT_.out (by kernel_rfl)) (fun _ _ _ h => h) (Or.inl ⟨by rfl, ?_⟩) ?_ ?_
                                rotate_left; (focus (intro w'; go_simp; with_reducible rfl)); rotate_left; (focus (simp only [Act.put, List.setIfInBounds_toArray, List.set_cons_zero, List.set_cons_succ, i64_w, i32_w, IntKind.wrap_u8, IntKind.wrap_u16, IntKind.wrap_u32]; rfl))
                                refine take_ (i := 0) (N := some 131) (v := ?_) (a' := ?_) #[true, true, true, false, false, false, false, false, false, false, false] rfl rfl (take_ofW HT_.out HW_.out (by kernel_rfl)) (fun _ _ _ h => h) (Or.inl ⟨by rfl, ?_⟩) hHeld ?_ ?_
                                rotate_left; (focus (rintro w' ⟨s0, s1, s2⟩; go_simp; with_reducible rfl)); rotate_left; (focus (simp only [Act.put, List.setIfInBounds_toArray, List.set_cons_zero, List.set_cons_succ, i64_w, i32_w, IntKind.wrap_u8, IntKind.wrap_u16, IntKind.wrap_u32]; rfl))
                                refine take_ (i := 3) (N := some 134) (v := ?_) (a' := ?_) #[true, true, true, true, false, false, false, false, false, false, false] rfl rfl (take_ofW HT_.out HW_.out (by kernel_rfl)) (fun _ _ _ h => h) (Or.inl ⟨by rfl, ?_⟩) hHeld ?_ ?_
                                rotate_left; (focus (rintro w' ⟨s0, s1, s2⟩; go_simp; with_reducible rfl)); rotate_left; (focus (simp only [Act.put, List.setIfInBounds_toArray, List.set_cons_zero, List.set_cons_succ, i64_w, i32_w, IntKind.wrap_u8, IntKind.wrap_u16, IntKind.wrap_u32]; rfl))
                                refine join_ (σ := Value × Nat) 2 #[true, true, true, true, true, true, true, true, true, false, false] (fun s_ => [(135, .tuple #[.agg #[.string t369, .int .i64 t370, s_.1], .int .i64 t374]), (18, .pointer (some ⟨s_.2, 0, none⟩)), (130, .tuple #[.agg #[.string t369, .int .i64 t370, s_.1], .int .i64 t374]), (136, .agg #[.string t369, .int .i64 t370, s_.1]), (137, .int .i64 t374)]) (fun s_ w' => (w'.cell? ⟨gb345, 0, none⟩ = some (.string a0_0) ∧ w'.cell? ⟨gb345, 1, none⟩ = some (.slice A0_1 l0_1.length c0_1) ∧ w'.cell? ad368 = some (.slice A368_0 (rd_L1 t361 0).length c368_0)) ∧ (Kd.V Kd.string 9 w' w.heap.size (fun k_ => some k_ ≠ (s_.1 : Value).ownBlock ∧ some k_ ≠ (.slice (some ad368) t361.length co79 : Value).ownBlock ∧ k_ ≠ gb345 ∧ k_ ≠ gb346 ∧ k_ ≠ s_.2) (.slice A368_0 (rd_L1 t361 0).length c368_0) (rd_L1 t361 0)) ∧ (Kd.R k43 43 w' w.heap.size (fun _ => True) s_.1 t371) ∧ (Kd.N (Kd.slice 9 Kd.string) 39 w' w.heap.size (fun k_ => some k_ ≠ (s_.1 : Value).ownBlock ∧ k_ ≠ gb345 ∧ k_ ≠ gb346 ∧ k_ ≠ s_.2) (.slice (some ad368) t361.length co79) t361) ∧ (w'.heap[gb345]? = some (.cells #[.string a0_0, .slice A0_1 l0_1.length c0_1] 24 (0, 0))) ∧ (w'.heap[gb346]? = some (.cells #[.string a1_0, .int .i64 a1_1, .slice A1_2 l1_2.length c1_2] 35 (0, 0))) ∧ (w'.heap[s_.2]? = some (.cells #[.string (⟨#[]⟩ : ByteArray), .int .i64 0, .slice none 0 0] 35 (0, 0))) ∧ (w.heap.size ≤ s_.2) ∧ (w.heap.size ≤ s_.2) ∧ (gb345 ≠ s_.2) ∧ (s_.2 ≠ gb345) ∧ (gb346 ≠ s_.2) ∧ (s_.2 ≠ gb346) ∧ (Below w.heap.size w w')) ?_ ?_
                                rotate_left
                                · intro hCont
                                  refine two_ (i := 4) (j := 8) (Ni := some 135) (Nj := some 18) #[true, true, true, true, true, false, false, false, false, false, false] #[true, true, true, true, false, false, false, false, true, false, false] rfl rfl rfl rfl (two_of HT_.out (by kernel_rfl)) (by decide) (by decide) (fun K hK => ?_) (fun K hK => ?_)
                                  · skip
                                    refine goes_ Tryz.func10 (by kernel_rfl) rfl #[.agg #[.string a0_0, .slice A0_1 l0_1.length c0_1], .slice A368_0 (rd_L1 t361 0).length c368_0] (by rfl) rfl rfl (by (try simp only [List.map_toArray, List.map_cons, List.map_nil]); first | done | rfl | (simp only [List.length_drop, List.length_take]; rfl)) ?_
                                    with_reducible refine (csv_Event.calls a0_0 _ _ l0_1 _ _ (rd_L1 t361 0) t369 t370 t371 t374 _ ?side1 ?side2 ?side3 ?side4 ?side5 ?side6 ?side7 A74.out).mono ?_
                                    (case side1 => repeat (first | exact (Kd.C_below HR0_1.out HB.out) | (with_reducible refine Kd.C_alloc ?_ _) | (with_reducible refine Kd.C_drewN ?_ _) | (with_reducible refine Kd.C_drew ?_)))
                                    (case side2 => exact HC0_1.out)
                                    (case side3 => repeat (first | exact (by repeat (first | (with_reducible exact HR368_0.out) | (with_reducible refine Kd.C_alloc ?_ _) | (with_reducible refine Kd.C_drewN ?_ _) | (with_reducible refine Kd.C_drew ?_) | exact HR368_0.out)) | (with_reducible refine Kd.C_alloc ?_ _) | (with_reducible refine Kd.C_drewN ?_ _) | (with_reducible refine Kd.C_drew ?_)))
                                    (case side4 => exact HC368_0.out)
                                    (case side5 => first | (with_reducible exact HL_LErr) | exact ⟨LErr.below HL_LErr.out (hbT HB.out)⟩)
                                    (case side6 => first | (with_reducible exact HL_LG0) | exact ⟨LG0.below HL_LG0.out (hbT HB.out)⟩)
                                    (case side7 => first | (with_reducible exact HL_LSyn) | exact ⟨LSyn.below HL_LSyn.out (hbT HB.out)⟩)
                                    rintro e w80 ⟨v372, rfl, ho0, hb⟩
                                    have HS2_ := (hb.cell (World.block_lt_of_cell? _ _ (hHeld.2.2))).trans (hHeld.2.2)
                                    refine ⟨_, rfl, ?_⟩
                                    have HO373 := Aside0.mk (Kd.R_lower ho0 (below_size (hbT HB.out))); replace HO_15 := Aside0.mk (Kd.N_elder' (by (with_reducible repeat (first | apply Kd.N_alloc | apply Kd.N_drewN | apply Kd.N_drew)); exact HO_15.out) (Kd.R_base ho0) hb); replace HL368_0 := Aside0.mk (Kd.V_elder' (by (with_reducible repeat (first | apply Kd.V_alloc | apply Kd.V_drewN | apply Kd.V_drew)); exact HL368_0.out) (Kd.R_base ho0) hb); replace BK345 := bbA BK345 hb; replace BK346 := bbA BK346 hb; replace HR368_0 := Aside0.mk (Kd.C_below (by repeat (first | (with_reducible exact HR368_0.out) | (with_reducible refine Kd.C_alloc ?_ _) | (with_reducible refine Kd.C_drewN ?_ _) | (with_reducible refine Kd.C_drew ?_) | exact HR368_0.out)) hb); replace HB := bsA HB hb
                                    (try clear hb); (try clear hb2); (try clear hk); (try clear hi)
                                    (try clear ho0)
                                    refine hK.out _ _ ⟨(blk_cell BK345.out 0).trans rfl, (blk_cell BK345.out 1).trans rfl, HS2_⟩ (fun hHeld => ?_)
                                    clear hK K
                                    refine norm_ (a' := ?_) ?_ ?_
                                    rotate_left
                                    · show Act.put _ (some 135) _ = _
                                      simp only [Act.put, List.setIfInBounds_toArray, List.set_cons_zero, List.set_cons_succ, i64_w, i32_w, IntKind.wrap_u8, IntKind.wrap_u16, IntKind.wrap_u32]
                                      rfl
                                    refine pure_ (i := 5) (N := some 130) (v := ?_) (a' := ?_) #[true, true, true, true, true, true, false, false, false, false, false] rfl rfl (any_of HT_.out (by kernel_rfl)) (fun _ _ _ h => h) (Or.inl ⟨by rfl, ?_⟩) ?_ ?_
                                    rotate_left; (focus (intro w'; go_simp; with_reducible rfl)); rotate_left; (focus (simp only [Act.put, List.setIfInBounds_toArray, List.set_cons_zero, List.set_cons_succ, i64_w, i32_w, IntKind.wrap_u8, IntKind.wrap_u16, IntKind.wrap_u32]; rfl))
                                    refine pure_ (i := 6) (N := some 136) (v := ?_) (a' := ?_) #[true, true, true, true, true, true, true, false, false, false, false] rfl rfl (any_of HT_.out (by kernel_rfl)) (fun _ _ _ h => h) (Or.inl ⟨by rfl, ?_⟩) ?_ ?_
                                    rotate_left; (focus (intro w'; go_simp; with_reducible rfl)); rotate_left; (focus (simp only [Act.put, List.setIfInBounds_toArray, List.set_cons_zero, List.set_cons_succ, i64_w, i32_w, IntKind.wrap_u8, IntKind.wrap_u16, IntKind.wrap_u32]; rfl))
                                    refine pure_ (i := 7) (N := some 137) (v := ?_) (a' := ?_) #[true, true, true, true, true, true, true, true, false, false, false] rfl rfl (any_of HT_.out (by kernel_rfl)) (fun _ _ _ h => h) (Or.inl ⟨by rfl, ?_⟩) ?_ ?_
                                    rotate_left; (focus (intro w'; go_simp; with_reducible rfl)); rotate_left; (focus (simp only [Act.put, List.setIfInBounds_toArray, List.set_cons_zero, List.set_cons_succ, i64_w, i32_w, IntKind.wrap_u8, IntKind.wrap_u16, IntKind.wrap_u32]; rfl))
                                    refine one_ (i := 8) (N := some 18) #[true, true, true, true, true, true, true, true, true, false, false] rfl rfl (one_of HT_.out (by kernel_rfl)) (by decide) (fun K hK => ?_)
                                    refine box_step ?hg (N := 18) ?hd (cs := #[.string (⟨#[]⟩ : ByteArray), .int .i64 0, .slice none 0 0]) (t := 35) ?hr ?_; (case hd => rfl); (case hg => rfl); (case hr => first | (go_simp; done) | (go_simp; rfl))
                                    intro gb375 hg w81 hbox hb
                                    have HS2_ := (hb.cell (World.block_lt_of_cell? _ _ (hHeld.2.2))).trans (hHeld.2.2)
                                    have BK375 := Aside0.mk hbox; have GW375 := geA hg HB; have GE375 := geA hg HB; have NB345_375 := neA hg BK345; have NB375_345 := neB hg BK345; have NB346_375 := neA hg BK346; have NB375_346 := neB hg BK346; replace HO_15 := Aside0.mk (Kd.N_below (Kd.N_elderB (by (with_reducible repeat (first | apply Kd.N_alloc | apply Kd.N_drewN | apply Kd.N_drew)); exact HO_15.out) gb375 (Nat.le_of_eq hg.symm)) hb); replace HL368_0 := Aside0.mk (Kd.V_below (Kd.V_elderB (by (with_reducible repeat (first | apply Kd.V_alloc | apply Kd.V_drewN | apply Kd.V_drew)); exact HL368_0.out) gb375 (Nat.le_of_eq hg.symm)) hb); replace HO373 := Aside0.mk (Kd.R_below (by (with_reducible repeat (first | apply Kd.R_alloc | apply Kd.R_drewN | apply Kd.R_drew)); exact HO373.out) hb); replace BK345 := bbA BK345 hb; replace BK346 := bbA BK346 hb; replace HR368_0 := Aside0.mk (Kd.C_below (by repeat (first | (with_reducible exact HR368_0.out) | (with_reducible refine Kd.C_alloc ?_ _) | (with_reducible refine Kd.C_drewN ?_ _) | (with_reducible refine Kd.C_drew ?_) | exact HR368_0.out)) hb); replace HB := bsA HB hb
                                    clear hb hbox hg
                                    refine hK.out _ _ ⟨(blk_cell BK345.out 0).trans rfl, (blk_cell BK345.out 1).trans rfl, HS2_⟩ (fun hHeld => ?_)
                                    clear hK K
                                    refine norm_ (a' := ?_) ?_ ?_
                                    rotate_left
                                    · show Act.put _ (some 18) _ = _
                                      simp only [Act.put, List.setIfInBounds_toArray, List.set_cons_zero, List.set_cons_succ, i64_w, i32_w, IntKind.wrap_u8, IntKind.wrap_u16, IntKind.wrap_u32]
                                      rfl
                                    exact norm_ (by simp only [putAll, Act.put, List.setIfInBounds_toArray, List.set_cons_zero, List.set_cons_succ]) (hCont (v372, gb375) _ ⟨hHeld, (by (with_reducible repeat (first | apply Kd.V_alloc | apply Kd.V_drewN | apply Kd.V_drew)); exact Kd.V_mono HL368_0.out (fun _ hk => ⟨hk.1.2, ⟨hk.1.1.2, ⟨hk.1.1.1.1, ⟨hk.1.1.1.2, hk.2⟩⟩⟩⟩)), (by (with_reducible repeat (first | apply Kd.R_alloc | apply Kd.R_drewN | apply Kd.R_drew)); exact HO373.out), (by (with_reducible repeat (first | apply Kd.N_alloc | apply Kd.N_drewN | apply Kd.N_drew)); exact Kd.N_mono HO_15.out (fun _ hk => ⟨hk.1.2, ⟨hk.1.1.1, ⟨hk.1.1.2, hk.2⟩⟩⟩)), (bkT BK345.out), (bkT BK346.out), (bkT BK375.out), GW375.out, GE375.out, NB345_375.out, NB375_345.out, NB346_375.out, NB375_346.out, (hbT HB.out)⟩)
                                  · skip
                                    refine box_step ?hg (N := 18) ?hd (cs := #[.string (⟨#[]⟩ : ByteArray), .int .i64 0, .slice none 0 0]) (t := 35) ?hr ?_; (case hd => rfl); (case hg => rfl); (case hr => first | (go_simp; done) | (go_simp; rfl))
                                    intro gb375 hg w80 hbox hb
                                    have HS2_ := (hb.cell (World.block_lt_of_cell? _ _ (hHeld.2.2))).trans (hHeld.2.2)
                                    have BK375 := Aside0.mk hbox; have GW375 := geA hg HB; have GE375 := geA hg HB; have NB345_375 := neA hg BK345; have NB375_345 := neB hg BK345; have NB346_375 := neA hg BK346; have NB375_346 := neB hg BK346; replace HO_15 := Aside0.mk (Kd.N_below (Kd.N_elderB (by (with_reducible repeat (first | apply Kd.N_alloc | apply Kd.N_drewN | apply Kd.N_drew)); exact HO_15.out) gb375 (Nat.le_of_eq hg.symm)) hb); replace HL368_0 := Aside0.mk (Kd.V_below (Kd.V_elderB (by (with_reducible repeat (first | apply Kd.V_alloc | apply Kd.V_drewN | apply Kd.V_drew)); exact HL368_0.out) gb375 (Nat.le_of_eq hg.symm)) hb); replace BK345 := bbA BK345 hb; replace BK346 := bbA BK346 hb; replace HR368_0 := Aside0.mk (Kd.C_below (by repeat (first | (with_reducible exact HR368_0.out) | (with_reducible refine Kd.C_alloc ?_ _) | (with_reducible refine Kd.C_drewN ?_ _) | (with_reducible refine Kd.C_drew ?_) | exact HR368_0.out)) hb); replace HB := bsA HB hb
                                    clear hb hbox hg
                                    refine hK.out _ _ ⟨(blk_cell BK345.out 0).trans rfl, (blk_cell BK345.out 1).trans rfl, HS2_⟩ (fun hHeld => ?_)
                                    clear hK K
                                    refine norm_ (a' := ?_) ?_ ?_
                                    rotate_left
                                    · show Act.put _ (some 18) _ = _
                                      simp only [Act.put, List.setIfInBounds_toArray, List.set_cons_zero, List.set_cons_succ, i64_w, i32_w, IntKind.wrap_u8, IntKind.wrap_u16, IntKind.wrap_u32]
                                      rfl
                                    refine one_ (i := 4) (N := some 135) #[true, true, true, true, true, false, false, false, true, false, false] rfl rfl (one_of HT_.out (by kernel_rfl)) (by decide) (fun K hK => ?_)
                                    refine goes_ Tryz.func10 (by kernel_rfl) rfl #[.agg #[.string a0_0, .slice A0_1 l0_1.length c0_1], .slice A368_0 (rd_L1 t361 0).length c368_0] (by rfl) rfl rfl (by (try simp only [List.map_toArray, List.map_cons, List.map_nil]); first | done | rfl | (simp only [List.length_drop, List.length_take]; rfl)) ?_
                                    with_reducible refine (csv_Event.calls a0_0 _ _ l0_1 _ _ (rd_L1 t361 0) t369 t370 t371 t374 _ ?side1 ?side2 ?side3 ?side4 ?side5 ?side6 ?side7 A74.out).mono ?_
                                    (case side1 => repeat (first | exact (Kd.C_below HR0_1.out HB.out) | (with_reducible refine Kd.C_alloc ?_ _) | (with_reducible refine Kd.C_drewN ?_ _) | (with_reducible refine Kd.C_drew ?_)))
                                    (case side2 => exact HC0_1.out)
                                    (case side3 => repeat (first | exact (by repeat (first | (with_reducible exact HR368_0.out) | (with_reducible refine Kd.C_alloc ?_ _) | (with_reducible refine Kd.C_drewN ?_ _) | (with_reducible refine Kd.C_drew ?_) | exact HR368_0.out)) | (with_reducible refine Kd.C_alloc ?_ _) | (with_reducible refine Kd.C_drewN ?_ _) | (with_reducible refine Kd.C_drew ?_)))
                                    (case side4 => exact HC368_0.out)
                                    (case side5 => first | (with_reducible exact HL_LErr) | exact ⟨LErr.below HL_LErr.out (hbT HB.out)⟩)
                                    (case side6 => first | (with_reducible exact HL_LG0) | exact ⟨LG0.below HL_LG0.out (hbT HB.out)⟩)
                                    (case side7 => first | (with_reducible exact HL_LSyn) | exact ⟨LSyn.below HL_LSyn.out (hbT HB.out)⟩)
                                    rintro e w81 ⟨v372, rfl, ho0, hb⟩
                                    have HS2_ := (hb.cell (World.block_lt_of_cell? _ _ (hHeld.2.2))).trans (hHeld.2.2)
                                    refine ⟨_, rfl, ?_⟩
                                    have HO373 := Aside0.mk (Kd.R_lower ho0 (below_size (hbT HB.out))); replace HO_15 := Aside0.mk (Kd.N_elder' (by (with_reducible repeat (first | apply Kd.N_alloc | apply Kd.N_drewN | apply Kd.N_drew)); exact HO_15.out) (Kd.R_base ho0) hb); replace HL368_0 := Aside0.mk (Kd.V_elder' (by (with_reducible repeat (first | apply Kd.V_alloc | apply Kd.V_drewN | apply Kd.V_drew)); exact HL368_0.out) (Kd.R_base ho0) hb); replace BK345 := bbA BK345 hb; replace BK346 := bbA BK346 hb; replace HR368_0 := Aside0.mk (Kd.C_below (by repeat (first | (with_reducible exact HR368_0.out) | (with_reducible refine Kd.C_alloc ?_ _) | (with_reducible refine Kd.C_drewN ?_ _) | (with_reducible refine Kd.C_drew ?_) | exact HR368_0.out)) hb); replace BK375 := bbA BK375 hb; replace HB := bsA HB hb
                                    (try clear hb); (try clear hb2); (try clear hk); (try clear hi)
                                    (try clear ho0)
                                    refine hK.out _ _ ⟨(blk_cell BK345.out 0).trans rfl, (blk_cell BK345.out 1).trans rfl, HS2_⟩ (fun hHeld => ?_)
                                    clear hK K
                                    refine norm_ (a' := ?_) ?_ ?_
                                    rotate_left
                                    · show Act.put _ (some 135) _ = _
                                      simp only [Act.put, List.setIfInBounds_toArray, List.set_cons_zero, List.set_cons_succ, i64_w, i32_w, IntKind.wrap_u8, IntKind.wrap_u16, IntKind.wrap_u32]
                                      rfl
                                    refine pure_ (i := 5) (N := some 130) (v := ?_) (a' := ?_) #[true, true, true, true, true, true, false, false, true, false, false] rfl rfl (any_of HT_.out (by kernel_rfl)) (fun _ _ _ h => h) (Or.inl ⟨by rfl, ?_⟩) ?_ ?_
                                    rotate_left; (focus (intro w'; go_simp; with_reducible rfl)); rotate_left; (focus (simp only [Act.put, List.setIfInBounds_toArray, List.set_cons_zero, List.set_cons_succ, i64_w, i32_w, IntKind.wrap_u8, IntKind.wrap_u16, IntKind.wrap_u32]; rfl))
                                    refine pure_ (i := 6) (N := some 136) (v := ?_) (a' := ?_) #[true, true, true, true, true, true, true, false, true, false, false] rfl rfl (any_of HT_.out (by kernel_rfl)) (fun _ _ _ h => h) (Or.inl ⟨by rfl, ?_⟩) ?_ ?_
                                    rotate_left; (focus (intro w'; go_simp; with_reducible rfl)); rotate_left; (focus (simp only [Act.put, List.setIfInBounds_toArray, List.set_cons_zero, List.set_cons_succ, i64_w, i32_w, IntKind.wrap_u8, IntKind.wrap_u16, IntKind.wrap_u32]; rfl))
                                    refine pure_ (i := 7) (N := some 137) (v := ?_) (a' := ?_) #[true, true, true, true, true, true, true, true, true, false, false] rfl rfl (any_of HT_.out (by kernel_rfl)) (fun _ _ _ h => h) (Or.inl ⟨by rfl, ?_⟩) ?_ ?_
                                    rotate_left; (focus (intro w'; go_simp; with_reducible rfl)); rotate_left; (focus (simp only [Act.put, List.setIfInBounds_toArray, List.set_cons_zero, List.set_cons_succ, i64_w, i32_w, IntKind.wrap_u8, IntKind.wrap_u16, IntKind.wrap_u32]; rfl))
                                    exact norm_ (by simp only [putAll, Act.put, List.setIfInBounds_toArray, List.set_cons_zero, List.set_cons_succ]) (hCont (v372, gb375) _ ⟨hHeld, (by (with_reducible repeat (first | apply Kd.V_alloc | apply Kd.V_drewN | apply Kd.V_drew)); exact Kd.V_mono HL368_0.out (fun _ hk => ⟨hk.2, ⟨hk.1.1.2, ⟨hk.1.1.1.1, ⟨hk.1.1.1.2, hk.1.2⟩⟩⟩⟩)), (by (with_reducible repeat (first | apply Kd.R_alloc | apply Kd.R_drewN | apply Kd.R_drew)); exact HO373.out), (by (with_reducible repeat (first | apply Kd.N_alloc | apply Kd.N_drewN | apply Kd.N_drew)); exact Kd.N_mono HO_15.out (fun _ hk => ⟨hk.2, ⟨hk.1.1.1, ⟨hk.1.1.2, hk.1.2⟩⟩⟩)), (bkT BK345.out), (bkT BK346.out), (bkT BK375.out), GW375.out, GE375.out, NB345_375.out, NB375_345.out, NB346_375.out, NB375_346.out, (hbT HB.out)⟩)
                                rintro ⟨v372, gb375⟩ w82 ⟨hS_, h0_, h1_, h2_, h3_, h4_, h5_, h6_, h7_, h8_, h9_, h10_, h11_, h12_⟩
                                have n0_ : Aside0 (Kd.V Kd.string 9 w82 w.heap.size (fun k_ => some k_ ≠ (v372 : Value).ownBlock ∧ some k_ ≠ (.slice (some ad368) t361.length co79 : Value).ownBlock ∧ k_ ≠ gb345 ∧ k_ ≠ gb346 ∧ k_ ≠ gb375) (.slice A368_0 (rd_L1 t361 0).length c368_0) (rd_L1 t361 0)) := ⟨h0_⟩
                                have n1_ : Aside0 (Kd.R k43 43 w82 w.heap.size (fun _ => True) v372 t371) := ⟨h1_⟩
                                have n2_ : Aside0 (Kd.N (Kd.slice 9 Kd.string) 39 w82 w.heap.size (fun k_ => some k_ ≠ (v372 : Value).ownBlock ∧ k_ ≠ gb345 ∧ k_ ≠ gb346 ∧ k_ ≠ gb375) (.slice (some ad368) t361.length co79) t361) := ⟨h2_⟩
                                have n3_ : Aside0 (w82.heap[gb345]? = some (.cells #[.string a0_0, .slice A0_1 l0_1.length c0_1] 24 (0, 0))) := ⟨h3_⟩
                                have n4_ : Aside0 (w82.heap[gb346]? = some (.cells #[.string a1_0, .int .i64 a1_1, .slice A1_2 l1_2.length c1_2] 35 (0, 0))) := ⟨h4_⟩
                                have n5_ : Aside0 (w82.heap[gb375]? = some (.cells #[.string (⟨#[]⟩ : ByteArray), .int .i64 0, .slice none 0 0] 35 (0, 0))) := ⟨h5_⟩
                                have n6_ : Aside0 (w.heap.size ≤ gb375) := ⟨h6_⟩
                                have n7_ : Aside0 (w.heap.size ≤ gb375) := ⟨h7_⟩
                                have n8_ : Aside0 (gb345 ≠ gb375) := ⟨h8_⟩
                                have n9_ : Aside0 (gb375 ≠ gb345) := ⟨h9_⟩
                                have n10_ : Aside0 (gb346 ≠ gb375) := ⟨h10_⟩
                                have n11_ : Aside0 (gb375 ≠ gb346) := ⟨h11_⟩
                                have n12_ : Aside0 (Below w.heap.size w w82) := ⟨h12_⟩
                                clear HO_15; clear BK345
                                clear BK346; clear HB
                                clear h0_ h1_ h2_ h3_ h4_ h5_ h6_ h7_ h8_ h9_ h10_ h11_ h12_
                                have HL368_0 := n0_
                                have HO373 := n1_
                                have HO_15 := n2_
                                have BK345 := n3_
                                have BK346 := n4_
                                have BK375 := n5_
                                have GW375 := n6_
                                have GE375 := n7_
                                have NB345_375 := n8_
                                have NB375_345 := n9_
                                have NB346_375 := n10_
                                have NB375_346 := n11_
                                have HB := n12_
                                clear n0_ n1_ n2_ n3_ n4_ n5_ n6_ n7_ n8_ n9_ n10_ n11_ n12_
                                have hHeld : w82.cell? ⟨gb345, 0, none⟩ = some (.string a0_0) ∧ w82.cell? ⟨gb345, 1, none⟩ = some (.slice A0_1 l0_1.length c0_1) ∧ w82.cell? ad368 = some (.slice A368_0 (rd_L1 t361 0).length c368_0) := hS_
                                obtain ⟨Ao85, co85, eo85⟩ := Kd.R_slice HO373.out
                                (first | subst eo85 | (injection eo85 with f1_ f2_ f3_; have f4_ := f1_.symm; have f5_ := f3_.symm; clear f1_ f2_ f3_; subst f4_; subst f5_))
                                refine norm_ (a' := ?_) ?_ ?_
                                rotate_left
                                · simp only [putAll, Act.put, List.setIfInBounds_toArray, List.set_cons_zero, List.set_cons_succ]
                                  rfl
                                refine one_ (i := 9) (N := none) #[true, true, true, true, true, true, true, true, true, true, false] rfl rfl (one_of HT_.out (by kernel_rfl)) (by decide) (fun K hK => ?_)
                                have hs83 : w82.cell? ⟨gb375, 0, none⟩ = some (.string (⟨#[]⟩ : ByteArray)) := (blk_cell BK375.out 0).trans rfl
                                have hfs83 := blk_frozen BK375.out 0; have hns83_0 := NB345_375.out; have hns83_1 := NB346_375.out; have hms83_0 := NB375_345.out; have hms83_1 := NB375_346.out
                                have hs84 : w82.cell? ⟨gb375, 1, none⟩ = some (.int .i64 0) := (blk_cell BK375.out 1).trans rfl
                                have hfs84 := blk_frozen BK375.out 1; have hns84_0 := NB345_375.out; have hns84_1 := NB346_375.out; have hms84_0 := NB375_345.out; have hms84_1 := NB375_346.out
                                have hs86 : w82.cell? ⟨gb375, 2, none⟩ = some (.slice none 0 0) := (blk_cell BK375.out 2).trans rfl
                                have hfs86 := blk_frozen BK375.out 2; have hns86_0 := NB345_375.out; have hns86_1 := NB346_375.out; have hms86_0 := NB375_345.out; have hms86_1 := NB375_346.out
                                refine skip_ (w1 := ?_) (by rfl) rfl ?_ ?_
                                rotate_left
                                · go_simp
                                  rfl
                                refine hK.out _ _ ⟨(cfT NB345_375.out (hHeld.1)), (cfT NB345_375.out (hHeld.2.1)), (cfT (by first | exact Kd.own_blk (Kd.N_away HO_15.out (fun _ hk => hk.2.2.2)) | (rw [add_block]; exact Kd.own_blk (Kd.N_away HO_15.out (fun _ hk => hk.2.2.2))) | (show (Addr.add _ _).block ≠ _; rw [add_block]; exact Kd.own_blk (Kd.N_away HO_15.out (fun _ hk => hk.2.2.2))) | (dsimp only; exact Kd.own_blk (Kd.N_away HO_15.out (fun _ hk => hk.2.2.2)))) (hHeld.2.2))⟩ (fun hHeld => ?_)
                                clear hK K
                                refine pure_ (i := 10) (N := some 19) (v := ?_) (a' := ?_) #[true, true, true, true, true, true, true, true, true, true, true] rfl rfl (any_of HT_.out (by kernel_rfl)) (fun _ _ _ h => h) (Or.inl ⟨by rfl, ?_⟩) ?_ ?_
                                rotate_left; (focus (intro w'; go_simp; with_reducible rfl)); rotate_left; (focus (simp only [Act.put, List.setIfInBounds_toArray, List.set_cons_zero, List.set_cons_succ, i64_w, i32_w, IntKind.wrap_u8, IntKind.wrap_u16, IntKind.wrap_u32]; rfl))
                                refine done_ (done_of HT_.out (by kernel_rfl)) ?_
                                have hnb87 := NB375_345.out; have hnc87 := NB345_375.out; have hnb88 := NB375_346.out; have hnc88 := NB346_375.out; have hcz89_0 : w82.cell? ⟨gb375, 0, none⟩ = some (.string (⟨#[]⟩ : ByteArray)) := (blk_cell BK375.out 0).trans rfl; have hcz89_1 : w82.cell? ⟨gb375, 1, none⟩ = some (.int .i64 0) := (blk_cell BK375.out 1).trans rfl; have hcz89_2 : w82.cell? ⟨gb375, 2, none⟩ = some (.slice none 0 0) := (blk_cell BK375.out 2).trans rfl; have hfz89_0 := blk_frozen BK375.out 0; have hfz89_1 := blk_frozen BK375.out 1; have hfz89_2 := blk_frozen BK375.out 2; have hnb90 := NB346_345.out; have hnc90 := NB345_346.out; have hcz91_0 : w82.cell? ⟨gb346, 0, none⟩ = some (.string a1_0) := (blk_cell BK346.out 0).trans rfl; have hcz91_1 : w82.cell? ⟨gb346, 1, none⟩ = some (.int .i64 a1_1) := (blk_cell BK346.out 1).trans rfl; have hcz91_2 : w82.cell? ⟨gb346, 2, none⟩ = some (.slice A1_2 l1_2.length c1_2) := (blk_cell BK346.out 2).trans rfl; have hfz91_0 := blk_frozen BK346.out 0; have hfz91_1 := blk_frozen BK346.out 1; have hfz91_2 := blk_frozen BK346.out 2
                                try go_wp2_with (first | (go_at_call 12; (with_reducible refine (refrainlaw4_sameEvent.calls kj58 t369 t370 _ _ t371 a1_0 a1_1 _ _ l1_2 true _ ?side1 ?side2 ?side3 ?side4 A76.out).mono ?_); (case side1 => refine (Kd.R_reads' (e := 43) (base := w.heap.size) (ok := fun k_ => True) (n := t371.length) (c := co85) ?_).2.2; exact (by (with_reducible repeat (first | apply Kd.R_alloc | apply Kd.R_drewN | apply Kd.R_drew)); exact (Kd.R_mono (Kd.R_far (p := ⟨gb375, 2, none⟩) (Kd.R_far (p := ⟨gb375, 1, none⟩) (Kd.R_far (p := ⟨gb375, 0, none⟩) (Kd.R_types HO373.out BK375.out (by decide)) (fun _ hk => hk.2) (.string t369)) (fun _ hk => hk.2) (.int .i64 t370)) (fun _ hk => hk.2) (.slice Ao85 t371.length co85)) (fun _ h_ => h_.1)))); (case side2 => exact (Kd.R_reads' HO373.out).2.1); (case side3 => exact Kd.C_below HR1_2.out (hbT HB.out)); (case side4 => exact HC1_2.out); rintro e w92 ⟨rfl, hb⟩; replace HO_15 := Aside0.mk (Kd.N_below (by (with_reducible repeat (first | apply Kd.N_alloc | apply Kd.N_drewN | apply Kd.N_drew)); exact (Kd.N_mono (Kd.N_far (p := ⟨gb375, 2, none⟩) (Kd.N_far (p := ⟨gb375, 1, none⟩) (Kd.N_far (p := ⟨gb375, 0, none⟩) (Kd.N_mono HO_15.out (fun k_ hk => (⟨hk, hk.2.2.2⟩ : _ ∧ k_ ≠ gb375))) (fun _ hk => hk.2) (.string t369)) (fun _ hk => hk.2) (.int .i64 t370)) (fun _ hk => hk.2) (.slice Ao85 t371.length co85)) (fun _ h_ => h_.1))) hb); replace HL368_0 := Aside0.mk (Kd.V_below (by (with_reducible repeat (first | apply Kd.V_alloc | apply Kd.V_drewN | apply Kd.V_drew)); exact (Kd.V_mono (Kd.V_far (p := ⟨gb375, 2, none⟩) (Kd.V_far (p := ⟨gb375, 1, none⟩) (Kd.V_far (p := ⟨gb375, 0, none⟩) (Kd.V_mono HL368_0.out (fun k_ hk => (⟨hk, hk.2.2.2.2⟩ : _ ∧ k_ ≠ gb375))) (fun _ hk => hk.2) (.string t369)) (fun _ hk => hk.2) (.int .i64 t370)) (fun _ hk => hk.2) (.slice Ao85 t371.length co85)) (fun _ h_ => h_.1))) hb); replace HO373 := Aside0.mk (Kd.R_below (by (with_reducible repeat (first | apply Kd.R_alloc | apply Kd.R_drewN | apply Kd.R_drew)); exact (Kd.R_mono (Kd.R_far (p := ⟨gb375, 2, none⟩) (Kd.R_far (p := ⟨gb375, 1, none⟩) (Kd.R_far (p := ⟨gb375, 0, none⟩) (Kd.R_types HO373.out BK375.out (by decide)) (fun _ hk => hk.2) (.string t369)) (fun _ hk => hk.2) (.int .i64 t370)) (fun _ hk => hk.2) (.slice Ao85 t371.length co85)) (fun _ h_ => h_.1))) hb); replace BK345 := Aside0.mk (blk_below (g := gb345) (o := .cells #[.string a0_0, .slice A0_1 l0_1.length c0_1] 24 (0, 0)) (bfT NB345_375.out BK345.out) hb); replace BK346 := Aside0.mk (blk_below (g := gb346) (o := .cells #[.string a1_0, .int .i64 a1_1, .slice A1_2 l1_2.length c1_2] 35 (0, 0)) (bfT NB346_375.out BK346.out) hb); replace HB := bsA HB hb; replace BK375 := Aside0.mk (blk_below (g := gb375) (o := .cells #[.string t369, .int .i64 t370, .slice Ao85 t371.length co85] 35 (0, 0)) (by (with_reducible repeat (first | refine blk_drewN ?_ _ | refine blk_drew ?_ | refine blk_alloc ?_ _)); refine blk_put (cs := #[.string t369, .int .i64 t370, .slice none 0 0]) ?_ 2 _ rfl; (with_reducible repeat (first | refine blk_drewN ?_ _ | refine blk_drew ?_ | refine blk_alloc ?_ _)); refine blk_put (cs := #[.string t369, .int .i64 0, .slice none 0 0]) ?_ 1 _ rfl; (with_reducible repeat (first | refine blk_drewN ?_ _ | refine blk_drew ?_ | refine blk_alloc ?_ _)); refine blk_put (cs := #[.string (⟨#[]⟩ : ByteArray), .int .i64 0, .slice none 0 0]) ?_ 0 _ rfl; (with_reducible repeat (first | refine blk_drewN ?_ _ | refine blk_drew ?_ | refine blk_alloc ?_ _)); exact BK375.out) hb); (try clear hb); (try clear hb2); (try clear hk); (try clear hi)))
                                go_meet
                                case rel => exact ⟨_, H', ⟨by have := HJ5.out; have := HJ24.out; have := HJ58.out; first | omega | exact Nat.le_refl _⟩, ⟨bkT BK345.out⟩, ⟨bkT BK346.out⟩, ⟨hbT HB.out⟩⟩
                              · replace c77 := Bool.eq_false_iff.mpr c77
                                subst c77
                                have H1 : (some false) = some r := by rw [if_neg (show ¬ (false = true) by decide)] at H; exact H
                                clear H
                                have H := H1
                                clear H1
                                obtain rfl := Option.some.inj H
                                try go_wp2
                                replace HO_15 := Aside0.mk (Kd.N_drew HO_15.out); replace BK345 := bdA BK345; replace BK346 := bdA BK346; replace HB := Aside0.mk (below_drew1 HB.out)
                                obtain ⟨Ao94, co94, eo94⟩ := Kd.N_slice HO_15.out
                                (first | subst eo94 | (injection eo94 with f1_ f2_ f3_; have f4_ := f1_.symm; have f5_ := f3_.symm; clear f1_ f2_ f3_; subst f4_; subst f5_))
                                have p368 : 0 ≤ (0 : Int) := (by omega)
                                have q368 : 0 < (t361.length : Int) := of_decide_eq_true (by first | (with_reducible assumption) | assumption)
                                obtain ⟨ad368, A368_0, c368_0, e368, hx368_0, hl368_0, hi368_0⟩ := at_L1 (Kd.N_reads' HO_15.out).2.2 0 p368 q368
                                cases e368
                                obtain ⟨ce368, hce368, hMe368, hcc368⟩ := Kd.N_get HO_15.out [] 0 p368 (by first | exact q368 | exact of_decide_eq_true (by first | (with_reducible assumption) | assumption) | (have e_ := (Kd.N_reads' HO_15.out).1; omega))
                                obtain ⟨ua368_0, uc368_0, rfl, ul368_0, ge368_0⟩ := Kd.FK_slice_open hMe368
                                have hv368_0 := hcc368 0 _ rfl
                                rw [Nat.add_zero, show ((Kd.slice 9 Kd.string)).sz = 1 from rfl, Nat.mul_one] at hv368_0
                                replace hv368_0 := Option.some.inj (hv368_0.symm.trans hx368_0)
                                injection hv368_0 with hva_ hvn_ hvc_
                                rw [hva_] at ge368_0
                                rw [hvc_] at ul368_0
                                have HL368_0 := Aside0.mk (show Kd.V Kd.string 9 _ w.heap.size _ _ (rd_L1 t361 0) from Kd.V_mk ul368_0 ge368_0)
                                clear hva_ hvn_ hvc_ ge368_0 ul368_0
                                clear hcc368 hce368
                                have qi368 : (0 < t361.length) = True := eq_true (by omega)
                                (try rw [show ((0 : Int)).toNat = 0 from rfl] at hx368_0)
                                (try rw [Addr.add_zero'] at hx368_0)
                                have HR368_0 := Aside0.mk hi368_0
                                have HC368_0 := Aside0.mk hl368_0
                                clear hi368_0 hl368_0
                                replace p368 := eq_true p368
                                replace q368 := eq_true q368
                                refine start_ (n := 11) (S := fun w' => w'.cell? ⟨gb345, 0, none⟩ = some (.string a0_0) ∧ w'.cell? ⟨gb345, 1, none⟩ = some (.slice A0_1 l0_1.length c0_1) ∧ w'.cell? ad368 = some (.slice A368_0 (rd_L1 t361 0).length c368_0)) (ds := []) #[false, false, false, false, false, false, false, false, false, false, false] (by kernel_rfl) rfl rfl ⟨(blk_cell BK345.out 0).trans rfl, (blk_cell BK345.out 1).trans rfl, hx368_0⟩ (fun hHeld => ?_); refine with_tabW refrainlaw4_CsvCarries.tab20 refrainlaw4_CsvCarries.bits20 (fun HT_ HW_ => ?_)
                                generalize wc.drew = w93 at HO_15 BK345 BK346 HB HL368_0 HR368_0 hx368_0 hHeld ⊢
                                refine pure_ (i := 1) (N := some 132) (v := ?_) (a' := ?_) #[false, true, false, false, false, false, false, false, false, false, false] rfl rfl (any_of HT_.out (by kernel_rfl)) (fun _ _ _ h => h) (Or.inl ⟨by rfl, ?_⟩) ?_ ?_
                                rotate_left; (focus (intro w'; go_simp; with_reducible rfl)); rotate_left; (focus (simp only [Act.put, List.setIfInBounds_toArray, List.set_cons_zero, List.set_cons_succ, i64_w, i32_w, IntKind.wrap_u8, IntKind.wrap_u16, IntKind.wrap_u32]; rfl))
                                refine pure_ (i := 2) (N := some 133) (v := ?_) (a' := ?_) #[false, true, true, false, false, false, false, false, false, false, false] rfl rfl (any_of HT_.out (by kernel_rfl)) (fun _ _ _ h => h) (Or.inl ⟨by rfl, ?_⟩) ?_ ?_
                                rotate_left; (focus (intro w'; go_simp; with_reducible rfl)); rotate_left; (focus (simp only [Act.put, List.setIfInBounds_toArray, List.set_cons_zero, List.set_cons_succ, i64_w, i32_w, IntKind.wrap_u8, IntKind.wrap_u16, IntKind.wrap_u32]; rfl))
                                refine take_ (i := 0) (N := some 131) (v := ?_) (a' := ?_) #[true, true, true, false, false, false, false, false, false, false, false] rfl rfl (take_ofW HT_.out HW_.out (by kernel_rfl)) (fun _ _ _ h => h) (Or.inl ⟨by rfl, ?_⟩) hHeld ?_ ?_
                                rotate_left; (focus (rintro w' ⟨s0, s1, s2⟩; go_simp; with_reducible rfl)); rotate_left; (focus (simp only [Act.put, List.setIfInBounds_toArray, List.set_cons_zero, List.set_cons_succ, i64_w, i32_w, IntKind.wrap_u8, IntKind.wrap_u16, IntKind.wrap_u32]; rfl))
                                refine take_ (i := 3) (N := some 134) (v := ?_) (a' := ?_) #[true, true, true, true, false, false, false, false, false, false, false] rfl rfl (take_ofW HT_.out HW_.out (by kernel_rfl)) (fun _ _ _ h => h) (Or.inl ⟨by rfl, ?_⟩) hHeld ?_ ?_
                                rotate_left; (focus (rintro w' ⟨s0, s1, s2⟩; go_simp; with_reducible rfl)); rotate_left; (focus (simp only [Act.put, List.setIfInBounds_toArray, List.set_cons_zero, List.set_cons_succ, i64_w, i32_w, IntKind.wrap_u8, IntKind.wrap_u16, IntKind.wrap_u32]; rfl))
                                refine join_ (σ := Value × Nat) 2 #[true, true, true, true, true, true, true, true, true, false, false] (fun s_ => [(135, .tuple #[.agg #[.string t369, .int .i64 t370, s_.1], .int .i64 t374]), (18, .pointer (some ⟨s_.2, 0, none⟩)), (130, .tuple #[.agg #[.string t369, .int .i64 t370, s_.1], .int .i64 t374]), (136, .agg #[.string t369, .int .i64 t370, s_.1]), (137, .int .i64 t374)]) (fun s_ w' => (w'.cell? ⟨gb345, 0, none⟩ = some (.string a0_0) ∧ w'.cell? ⟨gb345, 1, none⟩ = some (.slice A0_1 l0_1.length c0_1) ∧ w'.cell? ad368 = some (.slice A368_0 (rd_L1 t361 0).length c368_0)) ∧ (Kd.V Kd.string 9 w' w.heap.size (fun k_ => some k_ ≠ (s_.1 : Value).ownBlock ∧ some k_ ≠ (.slice (some ad368) t361.length co94 : Value).ownBlock ∧ k_ ≠ gb345 ∧ k_ ≠ gb346 ∧ k_ ≠ s_.2) (.slice A368_0 (rd_L1 t361 0).length c368_0) (rd_L1 t361 0)) ∧ (Kd.R k43 43 w' w.heap.size (fun _ => True) s_.1 t371) ∧ (Kd.N (Kd.slice 9 Kd.string) 39 w' w.heap.size (fun k_ => some k_ ≠ (s_.1 : Value).ownBlock ∧ k_ ≠ gb345 ∧ k_ ≠ gb346 ∧ k_ ≠ s_.2) (.slice (some ad368) t361.length co94) t361) ∧ (w'.heap[gb345]? = some (.cells #[.string a0_0, .slice A0_1 l0_1.length c0_1] 24 (0, 0))) ∧ (w'.heap[gb346]? = some (.cells #[.string a1_0, .int .i64 a1_1, .slice A1_2 l1_2.length c1_2] 35 (0, 0))) ∧ (w'.heap[s_.2]? = some (.cells #[.string (⟨#[]⟩ : ByteArray), .int .i64 0, .slice none 0 0] 35 (0, 0))) ∧ (w.heap.size ≤ s_.2) ∧ (w.heap.size ≤ s_.2) ∧ (gb345 ≠ s_.2) ∧ (s_.2 ≠ gb345) ∧ (gb346 ≠ s_.2) ∧ (s_.2 ≠ gb346) ∧ (Below w.heap.size w w')) ?_ ?_
                                rotate_left
                                · intro hCont
                                  refine two_ (i := 4) (j := 8) (Ni := some 135) (Nj := some 18) #[true, true, true, true, true, false, false, false, false, false, false] #[true, true, true, true, false, false, false, false, true, false, false] rfl rfl rfl rfl (two_of HT_.out (by kernel_rfl)) (by decide) (by decide) (fun K hK => ?_) (fun K hK => ?_)
                                  · skip
                                    refine goes_ Tryz.func10 (by kernel_rfl) rfl #[.agg #[.string a0_0, .slice A0_1 l0_1.length c0_1], .slice A368_0 (rd_L1 t361 0).length c368_0] (by rfl) rfl rfl (by (try simp only [List.map_toArray, List.map_cons, List.map_nil]); first | done | rfl | (simp only [List.length_drop, List.length_take]; rfl)) ?_
                                    with_reducible refine (csv_Event.calls a0_0 _ _ l0_1 _ _ (rd_L1 t361 0) t369 t370 t371 t374 _ ?side1 ?side2 ?side3 ?side4 ?side5 ?side6 ?side7 A74.out).mono ?_
                                    (case side1 => repeat (first | exact (Kd.C_below HR0_1.out HB.out) | (with_reducible refine Kd.C_alloc ?_ _) | (with_reducible refine Kd.C_drewN ?_ _) | (with_reducible refine Kd.C_drew ?_)))
                                    (case side2 => exact HC0_1.out)
                                    (case side3 => repeat (first | exact (by repeat (first | (with_reducible exact HR368_0.out) | (with_reducible refine Kd.C_alloc ?_ _) | (with_reducible refine Kd.C_drewN ?_ _) | (with_reducible refine Kd.C_drew ?_) | exact HR368_0.out)) | (with_reducible refine Kd.C_alloc ?_ _) | (with_reducible refine Kd.C_drewN ?_ _) | (with_reducible refine Kd.C_drew ?_)))
                                    (case side4 => exact HC368_0.out)
                                    (case side5 => first | (with_reducible exact HL_LErr) | exact ⟨LErr.below HL_LErr.out (hbT HB.out)⟩)
                                    (case side6 => first | (with_reducible exact HL_LG0) | exact ⟨LG0.below HL_LG0.out (hbT HB.out)⟩)
                                    (case side7 => first | (with_reducible exact HL_LSyn) | exact ⟨LSyn.below HL_LSyn.out (hbT HB.out)⟩)
                                    rintro e w95 ⟨v372, rfl, ho0, hb⟩
                                    have HS2_ := (hb.cell (World.block_lt_of_cell? _ _ (hHeld.2.2))).trans (hHeld.2.2)
                                    refine ⟨_, rfl, ?_⟩
                                    have HO373 := Aside0.mk (Kd.R_lower ho0 (below_size (hbT HB.out))); replace HO_15 := Aside0.mk (Kd.N_elder' (by (with_reducible repeat (first | apply Kd.N_alloc | apply Kd.N_drewN | apply Kd.N_drew)); exact HO_15.out) (Kd.R_base ho0) hb); replace HL368_0 := Aside0.mk (Kd.V_elder' (by (with_reducible repeat (first | apply Kd.V_alloc | apply Kd.V_drewN | apply Kd.V_drew)); exact HL368_0.out) (Kd.R_base ho0) hb); replace BK345 := bbA BK345 hb; replace BK346 := bbA BK346 hb; replace HR368_0 := Aside0.mk (Kd.C_below (by repeat (first | (with_reducible exact HR368_0.out) | (with_reducible refine Kd.C_alloc ?_ _) | (with_reducible refine Kd.C_drewN ?_ _) | (with_reducible refine Kd.C_drew ?_) | exact HR368_0.out)) hb); replace HB := bsA HB hb
                                    (try clear hb); (try clear hb2); (try clear hk); (try clear hi)
                                    (try clear ho0)
                                    refine hK.out _ _ ⟨(blk_cell BK345.out 0).trans rfl, (blk_cell BK345.out 1).trans rfl, HS2_⟩ (fun hHeld => ?_)
                                    clear hK K
                                    refine norm_ (a' := ?_) ?_ ?_
                                    rotate_left
                                    · show Act.put _ (some 135) _ = _
                                      simp only [Act.put, List.setIfInBounds_toArray, List.set_cons_zero, List.set_cons_succ, i64_w, i32_w, IntKind.wrap_u8, IntKind.wrap_u16, IntKind.wrap_u32]
                                      rfl
                                    refine pure_ (i := 5) (N := some 130) (v := ?_) (a' := ?_) #[true, true, true, true, true, true, false, false, false, false, false] rfl rfl (any_of HT_.out (by kernel_rfl)) (fun _ _ _ h => h) (Or.inl ⟨by rfl, ?_⟩) ?_ ?_
                                    rotate_left; (focus (intro w'; go_simp; with_reducible rfl)); rotate_left; (focus (simp only [Act.put, List.setIfInBounds_toArray, List.set_cons_zero, List.set_cons_succ, i64_w, i32_w, IntKind.wrap_u8, IntKind.wrap_u16, IntKind.wrap_u32]; rfl))
                                    refine pure_ (i := 6) (N := some 136) (v := ?_) (a' := ?_) #[true, true, true, true, true, true, true, false, false, false, false] rfl rfl (any_of HT_.out (by kernel_rfl)) (fun _ _ _ h => h) (Or.inl ⟨by rfl, ?_⟩) ?_ ?_
                                    rotate_left; (focus (intro w'; go_simp; with_reducible rfl)); rotate_left; (focus (simp only [Act.put, List.setIfInBounds_toArray, List.set_cons_zero, List.set_cons_succ, i64_w, i32_w, IntKind.wrap_u8, IntKind.wrap_u16, IntKind.wrap_u32]; rfl))
                                    refine pure_ (i := 7) (N := some 137) (v := ?_) (a' := ?_) #[true, true, true, true, true, true, true, true, false, false, false] rfl rfl (any_of HT_.out (by kernel_rfl)) (fun _ _ _ h => h) (Or.inl ⟨by rfl, ?_⟩) ?_ ?_
                                    rotate_left; (focus (intro w'; go_simp; with_reducible rfl)); rotate_left; (focus (simp only [Act.put, List.setIfInBounds_toArray, List.set_cons_zero, List.set_cons_succ, i64_w, i32_w, IntKind.wrap_u8, IntKind.wrap_u16, IntKind.wrap_u32]; rfl))
                                    refine one_ (i := 8) (N := some 18) #[true, true, true, true, true, true, true, true, true, false, false] rfl rfl (one_of HT_.out (by kernel_rfl)) (by decide) (fun K hK => ?_)
                                    refine box_step ?hg (N := 18) ?hd (cs := #[.string (⟨#[]⟩ : ByteArray), .int .i64 0, .slice none 0 0]) (t := 35) ?hr ?_; (case hd => rfl); (case hg => rfl); (case hr => first | (go_simp; done) | (go_simp; rfl))
                                    intro gb375 hg w96 hbox hb
                                    have HS2_ := (hb.cell (World.block_lt_of_cell? _ _ (hHeld.2.2))).trans (hHeld.2.2)
                                    have BK375 := Aside0.mk hbox; have GW375 := geA hg HB; have GE375 := geA hg HB; have NB345_375 := neA hg BK345; have NB375_345 := neB hg BK345; have NB346_375 := neA hg BK346; have NB375_346 := neB hg BK346; replace HO_15 := Aside0.mk (Kd.N_below (Kd.N_elderB (by (with_reducible repeat (first | apply Kd.N_alloc | apply Kd.N_drewN | apply Kd.N_drew)); exact HO_15.out) gb375 (Nat.le_of_eq hg.symm)) hb); replace HL368_0 := Aside0.mk (Kd.V_below (Kd.V_elderB (by (with_reducible repeat (first | apply Kd.V_alloc | apply Kd.V_drewN | apply Kd.V_drew)); exact HL368_0.out) gb375 (Nat.le_of_eq hg.symm)) hb); replace HO373 := Aside0.mk (Kd.R_below (by (with_reducible repeat (first | apply Kd.R_alloc | apply Kd.R_drewN | apply Kd.R_drew)); exact HO373.out) hb); replace BK345 := bbA BK345 hb; replace BK346 := bbA BK346 hb; replace HR368_0 := Aside0.mk (Kd.C_below (by repeat (first | (with_reducible exact HR368_0.out) | (with_reducible refine Kd.C_alloc ?_ _) | (with_reducible refine Kd.C_drewN ?_ _) | (with_reducible refine Kd.C_drew ?_) | exact HR368_0.out)) hb); replace HB := bsA HB hb
                                    clear hb hbox hg
                                    refine hK.out _ _ ⟨(blk_cell BK345.out 0).trans rfl, (blk_cell BK345.out 1).trans rfl, HS2_⟩ (fun hHeld => ?_)
                                    clear hK K
                                    refine norm_ (a' := ?_) ?_ ?_
                                    rotate_left
                                    · show Act.put _ (some 18) _ = _
                                      simp only [Act.put, List.setIfInBounds_toArray, List.set_cons_zero, List.set_cons_succ, i64_w, i32_w, IntKind.wrap_u8, IntKind.wrap_u16, IntKind.wrap_u32]
                                      rfl
                                    exact norm_ (by simp only [putAll, Act.put, List.setIfInBounds_toArray, List.set_cons_zero, List.set_cons_succ]) (hCont (v372, gb375) _ ⟨hHeld, (by (with_reducible repeat (first | apply Kd.V_alloc | apply Kd.V_drewN | apply Kd.V_drew)); exact Kd.V_mono HL368_0.out (fun _ hk => ⟨hk.1.2, ⟨hk.1.1.2, ⟨hk.1.1.1.1, ⟨hk.1.1.1.2, hk.2⟩⟩⟩⟩)), (by (with_reducible repeat (first | apply Kd.R_alloc | apply Kd.R_drewN | apply Kd.R_drew)); exact HO373.out), (by (with_reducible repeat (first | apply Kd.N_alloc | apply Kd.N_drewN | apply Kd.N_drew)); exact Kd.N_mono HO_15.out (fun _ hk => ⟨hk.1.2, ⟨hk.1.1.1, ⟨hk.1.1.2, hk.2⟩⟩⟩)), (bkT BK345.out), (bkT BK346.out), (bkT BK375.out), GW375.out, GE375.out, NB345_375.out, NB375_345.out, NB346_375.out, NB375_346.out, (hbT HB.out)⟩)
                                  · skip
                                    refine box_step ?hg (N := 18) ?hd (cs := #[.string (⟨#[]⟩ : ByteArray), .int .i64 0, .slice none 0 0]) (t := 35) ?hr ?_; (case hd => rfl); (case hg => rfl); (case hr => first | (go_simp; done) | (go_simp; rfl))
                                    intro gb375 hg w95 hbox hb
                                    have HS2_ := (hb.cell (World.block_lt_of_cell? _ _ (hHeld.2.2))).trans (hHeld.2.2)
                                    have BK375 := Aside0.mk hbox; have GW375 := geA hg HB; have GE375 := geA hg HB; have NB345_375 := neA hg BK345; have NB375_345 := neB hg BK345; have NB346_375 := neA hg BK346; have NB375_346 := neB hg BK346; replace HO_15 := Aside0.mk (Kd.N_below (Kd.N_elderB (by (with_reducible repeat (first | apply Kd.N_alloc | apply Kd.N_drewN | apply Kd.N_drew)); exact HO_15.out) gb375 (Nat.le_of_eq hg.symm)) hb); replace HL368_0 := Aside0.mk (Kd.V_below (Kd.V_elderB (by (with_reducible repeat (first | apply Kd.V_alloc | apply Kd.V_drewN | apply Kd.V_drew)); exact HL368_0.out) gb375 (Nat.le_of_eq hg.symm)) hb); replace BK345 := bbA BK345 hb; replace BK346 := bbA BK346 hb; replace HR368_0 := Aside0.mk (Kd.C_below (by repeat (first | (with_reducible exact HR368_0.out) | (with_reducible refine Kd.C_alloc ?_ _) | (with_reducible refine Kd.C_drewN ?_ _) | (with_reducible refine Kd.C_drew ?_) | exact HR368_0.out)) hb); replace HB := bsA HB hb
                                    clear hb hbox hg
                                    refine hK.out _ _ ⟨(blk_cell BK345.out 0).trans rfl, (blk_cell BK345.out 1).trans rfl, HS2_⟩ (fun hHeld => ?_)
                                    clear hK K
                                    refine norm_ (a' := ?_) ?_ ?_
                                    rotate_left
                                    · show Act.put _ (some 18) _ = _
                                      simp only [Act.put, List.setIfInBounds_toArray, List.set_cons_zero, List.set_cons_succ, i64_w, i32_w, IntKind.wrap_u8, IntKind.wrap_u16, IntKind.wrap_u32]
                                      rfl
                                    refine one_ (i := 4) (N := some 135) #[true, true, true, true, true, false, false, false, true, false, false] rfl rfl (one_of HT_.out (by kernel_rfl)) (by decide) (fun K hK => ?_)
                                    refine goes_ Tryz.func10 (by kernel_rfl) rfl #[.agg #[.string a0_0, .slice A0_1 l0_1.length c0_1], .slice A368_0 (rd_L1 t361 0).length c368_0] (by rfl) rfl rfl (by (try simp only [List.map_toArray, List.map_cons, List.map_nil]); first | done | rfl | (simp only [List.length_drop, List.length_take]; rfl)) ?_
                                    with_reducible refine (csv_Event.calls a0_0 _ _ l0_1 _ _ (rd_L1 t361 0) t369 t370 t371 t374 _ ?side1 ?side2 ?side3 ?side4 ?side5 ?side6 ?side7 A74.out).mono ?_
                                    (case side1 => repeat (first | exact (Kd.C_below HR0_1.out HB.out) | (with_reducible refine Kd.C_alloc ?_ _) | (with_reducible refine Kd.C_drewN ?_ _) | (with_reducible refine Kd.C_drew ?_)))
                                    (case side2 => exact HC0_1.out)
                                    (case side3 => repeat (first | exact (by repeat (first | (with_reducible exact HR368_0.out) | (with_reducible refine Kd.C_alloc ?_ _) | (with_reducible refine Kd.C_drewN ?_ _) | (with_reducible refine Kd.C_drew ?_) | exact HR368_0.out)) | (with_reducible refine Kd.C_alloc ?_ _) | (with_reducible refine Kd.C_drewN ?_ _) | (with_reducible refine Kd.C_drew ?_)))
                                    (case side4 => exact HC368_0.out)
                                    (case side5 => first | (with_reducible exact HL_LErr) | exact ⟨LErr.below HL_LErr.out (hbT HB.out)⟩)
                                    (case side6 => first | (with_reducible exact HL_LG0) | exact ⟨LG0.below HL_LG0.out (hbT HB.out)⟩)
                                    (case side7 => first | (with_reducible exact HL_LSyn) | exact ⟨LSyn.below HL_LSyn.out (hbT HB.out)⟩)
                                    rintro e w96 ⟨v372, rfl, ho0, hb⟩
                                    have HS2_ := (hb.cell (World.block_lt_of_cell? _ _ (hHeld.2.2))).trans (hHeld.2.2)
                                    refine ⟨_, rfl, ?_⟩
                                    have HO373 := Aside0.mk (Kd.R_lower ho0 (below_size (hbT HB.out))); replace HO_15 := Aside0.mk (Kd.N_elder' (by (with_reducible repeat (first | apply Kd.N_alloc | apply Kd.N_drewN | apply Kd.N_drew)); exact HO_15.out) (Kd.R_base ho0) hb); replace HL368_0 := Aside0.mk (Kd.V_elder' (by (with_reducible repeat (first | apply Kd.V_alloc | apply Kd.V_drewN | apply Kd.V_drew)); exact HL368_0.out) (Kd.R_base ho0) hb); replace BK345 := bbA BK345 hb; replace BK346 := bbA BK346 hb; replace HR368_0 := Aside0.mk (Kd.C_below (by repeat (first | (with_reducible exact HR368_0.out) | (with_reducible refine Kd.C_alloc ?_ _) | (with_reducible refine Kd.C_drewN ?_ _) | (with_reducible refine Kd.C_drew ?_) | exact HR368_0.out)) hb); replace BK375 := bbA BK375 hb; replace HB := bsA HB hb
                                    (try clear hb); (try clear hb2); (try clear hk); (try clear hi)
                                    (try clear ho0)
                                    refine hK.out _ _ ⟨(blk_cell BK345.out 0).trans rfl, (blk_cell BK345.out 1).trans rfl, HS2_⟩ (fun hHeld => ?_)
                                    clear hK K
                                    refine norm_ (a' := ?_) ?_ ?_
                                    rotate_left
                                    · show Act.put _ (some 135) _ = _
                                      simp only [Act.put, List.setIfInBounds_toArray, List.set_cons_zero, List.set_cons_succ, i64_w, i32_w, IntKind.wrap_u8, IntKind.wrap_u16, IntKind.wrap_u32]
                                      rfl
                                    refine pure_ (i := 5) (N := some 130) (v := ?_) (a' := ?_) #[true, true, true, true, true, true, false, false, true, false, false] rfl rfl (any_of HT_.out (by kernel_rfl)) (fun _ _ _ h => h) (Or.inl ⟨by rfl, ?_⟩) ?_ ?_
                                    rotate_left; (focus (intro w'; go_simp; with_reducible rfl)); rotate_left; (focus (simp only [Act.put, List.setIfInBounds_toArray, List.set_cons_zero, List.set_cons_succ, i64_w, i32_w, IntKind.wrap_u8, IntKind.wrap_u16, IntKind.wrap_u32]; rfl))
                                    refine pure_ (i := 6) (N := some 136) (v := ?_) (a' := ?_) #[true, true, true, true, true, true, true, false, true, false, false] rfl rfl (any_of HT_.out (by kernel_rfl)) (fun _ _ _ h => h) (Or.inl ⟨by rfl, ?_⟩) ?_ ?_
                                    rotate_left; (focus (intro w'; go_simp; with_reducible rfl)); rotate_left; (focus (simp only [Act.put, List.setIfInBounds_toArray, List.set_cons_zero, List.set_cons_succ, i64_w, i32_w, IntKind.wrap_u8, IntKind.wrap_u16, IntKind.wrap_u32]; rfl))
                                    refine pure_ (i := 7) (N := some 137) (v := ?_) (a' := ?_) #[true, true, true, true, true, true, true, true, true, false, false] rfl rfl (any_of HT_.out (by kernel_rfl)) (fun _ _ _ h => h) (Or.inl ⟨by rfl, ?_⟩) ?_ ?_
                                    rotate_left; (focus (intro w'; go_simp; with_reducible rfl)); rotate_left; (focus (simp only [Act.put, List.setIfInBounds_toArray, List.set_cons_zero, List.set_cons_succ, i64_w, i32_w, IntKind.wrap_u8, IntKind.wrap_u16, IntKind.wrap_u32]; rfl))
                                    exact norm_ (by simp only [putAll, Act.put, List.setIfInBounds_toArray, List.set_cons_zero, List.set_cons_succ]) (hCont (v372, gb375) _ ⟨hHeld, (by (with_reducible repeat (first | apply Kd.V_alloc | apply Kd.V_drewN | apply Kd.V_drew)); exact Kd.V_mono HL368_0.out (fun _ hk => ⟨hk.2, ⟨hk.1.1.2, ⟨hk.1.1.1.1, ⟨hk.1.1.1.2, hk.1.2⟩⟩⟩⟩)), (by (with_reducible repeat (first | apply Kd.R_alloc | apply Kd.R_drewN | apply Kd.R_drew)); exact HO373.out), (by (with_reducible repeat (first | apply Kd.N_alloc | apply Kd.N_drewN | apply Kd.N_drew)); exact Kd.N_mono HO_15.out (fun _ hk => ⟨hk.2, ⟨hk.1.1.1, ⟨hk.1.1.2, hk.1.2⟩⟩⟩)), (bkT BK345.out), (bkT BK346.out), (bkT BK375.out), GW375.out, GE375.out, NB345_375.out, NB375_345.out, NB346_375.out, NB375_346.out, (hbT HB.out)⟩)
                                rintro ⟨v372, gb375⟩ w97 ⟨hS_, h0_, h1_, h2_, h3_, h4_, h5_, h6_, h7_, h8_, h9_, h10_, h11_, h12_⟩
                                have n0_ : Aside0 (Kd.V Kd.string 9 w97 w.heap.size (fun k_ => some k_ ≠ (v372 : Value).ownBlock ∧ some k_ ≠ (.slice (some ad368) t361.length co94 : Value).ownBlock ∧ k_ ≠ gb345 ∧ k_ ≠ gb346 ∧ k_ ≠ gb375) (.slice A368_0 (rd_L1 t361 0).length c368_0) (rd_L1 t361 0)) := ⟨h0_⟩
                                have n1_ : Aside0 (Kd.R k43 43 w97 w.heap.size (fun _ => True) v372 t371) := ⟨h1_⟩
                                have n2_ : Aside0 (Kd.N (Kd.slice 9 Kd.string) 39 w97 w.heap.size (fun k_ => some k_ ≠ (v372 : Value).ownBlock ∧ k_ ≠ gb345 ∧ k_ ≠ gb346 ∧ k_ ≠ gb375) (.slice (some ad368) t361.length co94) t361) := ⟨h2_⟩
                                have n3_ : Aside0 (w97.heap[gb345]? = some (.cells #[.string a0_0, .slice A0_1 l0_1.length c0_1] 24 (0, 0))) := ⟨h3_⟩
                                have n4_ : Aside0 (w97.heap[gb346]? = some (.cells #[.string a1_0, .int .i64 a1_1, .slice A1_2 l1_2.length c1_2] 35 (0, 0))) := ⟨h4_⟩
                                have n5_ : Aside0 (w97.heap[gb375]? = some (.cells #[.string (⟨#[]⟩ : ByteArray), .int .i64 0, .slice none 0 0] 35 (0, 0))) := ⟨h5_⟩
                                have n6_ : Aside0 (w.heap.size ≤ gb375) := ⟨h6_⟩
                                have n7_ : Aside0 (w.heap.size ≤ gb375) := ⟨h7_⟩
                                have n8_ : Aside0 (gb345 ≠ gb375) := ⟨h8_⟩
                                have n9_ : Aside0 (gb375 ≠ gb345) := ⟨h9_⟩
                                have n10_ : Aside0 (gb346 ≠ gb375) := ⟨h10_⟩
                                have n11_ : Aside0 (gb375 ≠ gb346) := ⟨h11_⟩
                                have n12_ : Aside0 (Below w.heap.size w w97) := ⟨h12_⟩
                                clear HO_15; clear BK345
                                clear BK346; clear HB
                                clear h0_ h1_ h2_ h3_ h4_ h5_ h6_ h7_ h8_ h9_ h10_ h11_ h12_
                                have HL368_0 := n0_
                                have HO373 := n1_
                                have HO_15 := n2_
                                have BK345 := n3_
                                have BK346 := n4_
                                have BK375 := n5_
                                have GW375 := n6_
                                have GE375 := n7_
                                have NB345_375 := n8_
                                have NB375_345 := n9_
                                have NB346_375 := n10_
                                have NB375_346 := n11_
                                have HB := n12_
                                clear n0_ n1_ n2_ n3_ n4_ n5_ n6_ n7_ n8_ n9_ n10_ n11_ n12_
                                have hHeld : w97.cell? ⟨gb345, 0, none⟩ = some (.string a0_0) ∧ w97.cell? ⟨gb345, 1, none⟩ = some (.slice A0_1 l0_1.length c0_1) ∧ w97.cell? ad368 = some (.slice A368_0 (rd_L1 t361 0).length c368_0) := hS_
                                obtain ⟨Ao100, co100, eo100⟩ := Kd.R_slice HO373.out
                                (first | subst eo100 | (injection eo100 with f1_ f2_ f3_; have f4_ := f1_.symm; have f5_ := f3_.symm; clear f1_ f2_ f3_; subst f4_; subst f5_))
                                refine norm_ (a' := ?_) ?_ ?_
                                rotate_left
                                · simp only [putAll, Act.put, List.setIfInBounds_toArray, List.set_cons_zero, List.set_cons_succ]
                                  rfl
                                refine one_ (i := 9) (N := none) #[true, true, true, true, true, true, true, true, true, true, false] rfl rfl (one_of HT_.out (by kernel_rfl)) (by decide) (fun K hK => ?_)
                                have hs98 : w97.cell? ⟨gb375, 0, none⟩ = some (.string (⟨#[]⟩ : ByteArray)) := (blk_cell BK375.out 0).trans rfl
                                have hfs98 := blk_frozen BK375.out 0; have hns98_0 := NB345_375.out; have hns98_1 := NB346_375.out; have hms98_0 := NB375_345.out; have hms98_1 := NB375_346.out
                                have hs99 : w97.cell? ⟨gb375, 1, none⟩ = some (.int .i64 0) := (blk_cell BK375.out 1).trans rfl
                                have hfs99 := blk_frozen BK375.out 1; have hns99_0 := NB345_375.out; have hns99_1 := NB346_375.out; have hms99_0 := NB375_345.out; have hms99_1 := NB375_346.out
                                have hs101 : w97.cell? ⟨gb375, 2, none⟩ = some (.slice none 0 0) := (blk_cell BK375.out 2).trans rfl
                                have hfs101 := blk_frozen BK375.out 2; have hns101_0 := NB345_375.out; have hns101_1 := NB346_375.out; have hms101_0 := NB375_345.out; have hms101_1 := NB375_346.out
                                refine skip_ (w1 := ?_) (by rfl) rfl ?_ ?_
                                rotate_left
                                · go_simp
                                  rfl
                                refine hK.out _ _ ⟨(cfT NB345_375.out (hHeld.1)), (cfT NB345_375.out (hHeld.2.1)), (cfT (by first | exact Kd.own_blk (Kd.N_away HO_15.out (fun _ hk => hk.2.2.2)) | (rw [add_block]; exact Kd.own_blk (Kd.N_away HO_15.out (fun _ hk => hk.2.2.2))) | (show (Addr.add _ _).block ≠ _; rw [add_block]; exact Kd.own_blk (Kd.N_away HO_15.out (fun _ hk => hk.2.2.2))) | (dsimp only; exact Kd.own_blk (Kd.N_away HO_15.out (fun _ hk => hk.2.2.2)))) (hHeld.2.2))⟩ (fun hHeld => ?_)
                                clear hK K
                                refine pure_ (i := 10) (N := some 19) (v := ?_) (a' := ?_) #[true, true, true, true, true, true, true, true, true, true, true] rfl rfl (any_of HT_.out (by kernel_rfl)) (fun _ _ _ h => h) (Or.inl ⟨by rfl, ?_⟩) ?_ ?_
                                rotate_left; (focus (intro w'; go_simp; with_reducible rfl)); rotate_left; (focus (simp only [Act.put, List.setIfInBounds_toArray, List.set_cons_zero, List.set_cons_succ, i64_w, i32_w, IntKind.wrap_u8, IntKind.wrap_u16, IntKind.wrap_u32]; rfl))
                                refine done_ (done_of HT_.out (by kernel_rfl)) ?_
                                have hnb102 := NB375_345.out; have hnc102 := NB345_375.out; have hnb103 := NB375_346.out; have hnc103 := NB346_375.out; have hcz104_0 : w97.cell? ⟨gb375, 0, none⟩ = some (.string (⟨#[]⟩ : ByteArray)) := (blk_cell BK375.out 0).trans rfl; have hcz104_1 : w97.cell? ⟨gb375, 1, none⟩ = some (.int .i64 0) := (blk_cell BK375.out 1).trans rfl; have hcz104_2 : w97.cell? ⟨gb375, 2, none⟩ = some (.slice none 0 0) := (blk_cell BK375.out 2).trans rfl; have hfz104_0 := blk_frozen BK375.out 0; have hfz104_1 := blk_frozen BK375.out 1; have hfz104_2 := blk_frozen BK375.out 2; have hnb105 := NB346_345.out; have hnc105 := NB345_346.out; have hcz106_0 : w97.cell? ⟨gb346, 0, none⟩ = some (.string a1_0) := (blk_cell BK346.out 0).trans rfl; have hcz106_1 : w97.cell? ⟨gb346, 1, none⟩ = some (.int .i64 a1_1) := (blk_cell BK346.out 1).trans rfl; have hcz106_2 : w97.cell? ⟨gb346, 2, none⟩ = some (.slice A1_2 l1_2.length c1_2) := (blk_cell BK346.out 2).trans rfl; have hfz106_0 := blk_frozen BK346.out 0; have hfz106_1 := blk_frozen BK346.out 1; have hfz106_2 := blk_frozen BK346.out 2
                                try go_wp2_with (first | (go_at_call 12; (with_reducible refine (refrainlaw4_sameEvent.calls kj58 t369 t370 _ _ t371 a1_0 a1_1 _ _ l1_2 false _ ?side1 ?side2 ?side3 ?side4 A76.out).mono ?_); (case side1 => refine (Kd.R_reads' (e := 43) (base := w.heap.size) (ok := fun k_ => True) (n := t371.length) (c := co100) ?_).2.2; exact (by (with_reducible repeat (first | apply Kd.R_alloc | apply Kd.R_drewN | apply Kd.R_drew)); exact (Kd.R_mono (Kd.R_far (p := ⟨gb375, 2, none⟩) (Kd.R_far (p := ⟨gb375, 1, none⟩) (Kd.R_far (p := ⟨gb375, 0, none⟩) (Kd.R_types HO373.out BK375.out (by decide)) (fun _ hk => hk.2) (.string t369)) (fun _ hk => hk.2) (.int .i64 t370)) (fun _ hk => hk.2) (.slice Ao100 t371.length co100)) (fun _ h_ => h_.1)))); (case side2 => exact (Kd.R_reads' HO373.out).2.1); (case side3 => exact Kd.C_below HR1_2.out (hbT HB.out)); (case side4 => exact HC1_2.out); rintro e w107 ⟨rfl, hb⟩; replace HO_15 := Aside0.mk (Kd.N_below (by (with_reducible repeat (first | apply Kd.N_alloc | apply Kd.N_drewN | apply Kd.N_drew)); exact (Kd.N_mono (Kd.N_far (p := ⟨gb375, 2, none⟩) (Kd.N_far (p := ⟨gb375, 1, none⟩) (Kd.N_far (p := ⟨gb375, 0, none⟩) (Kd.N_mono HO_15.out (fun k_ hk => (⟨hk, hk.2.2.2⟩ : _ ∧ k_ ≠ gb375))) (fun _ hk => hk.2) (.string t369)) (fun _ hk => hk.2) (.int .i64 t370)) (fun _ hk => hk.2) (.slice Ao100 t371.length co100)) (fun _ h_ => h_.1))) hb); replace HL368_0 := Aside0.mk (Kd.V_below (by (with_reducible repeat (first | apply Kd.V_alloc | apply Kd.V_drewN | apply Kd.V_drew)); exact (Kd.V_mono (Kd.V_far (p := ⟨gb375, 2, none⟩) (Kd.V_far (p := ⟨gb375, 1, none⟩) (Kd.V_far (p := ⟨gb375, 0, none⟩) (Kd.V_mono HL368_0.out (fun k_ hk => (⟨hk, hk.2.2.2.2⟩ : _ ∧ k_ ≠ gb375))) (fun _ hk => hk.2) (.string t369)) (fun _ hk => hk.2) (.int .i64 t370)) (fun _ hk => hk.2) (.slice Ao100 t371.length co100)) (fun _ h_ => h_.1))) hb); replace HO373 := Aside0.mk (Kd.R_below (by (with_reducible repeat (first | apply Kd.R_alloc | apply Kd.R_drewN | apply Kd.R_drew)); exact (Kd.R_mono (Kd.R_far (p := ⟨gb375, 2, none⟩) (Kd.R_far (p := ⟨gb375, 1, none⟩) (Kd.R_far (p := ⟨gb375, 0, none⟩) (Kd.R_types HO373.out BK375.out (by decide)) (fun _ hk => hk.2) (.string t369)) (fun _ hk => hk.2) (.int .i64 t370)) (fun _ hk => hk.2) (.slice Ao100 t371.length co100)) (fun _ h_ => h_.1))) hb); replace BK345 := Aside0.mk (blk_below (g := gb345) (o := .cells #[.string a0_0, .slice A0_1 l0_1.length c0_1] 24 (0, 0)) (bfT NB345_375.out BK345.out) hb); replace BK346 := Aside0.mk (blk_below (g := gb346) (o := .cells #[.string a1_0, .int .i64 a1_1, .slice A1_2 l1_2.length c1_2] 35 (0, 0)) (bfT NB346_375.out BK346.out) hb); replace HB := bsA HB hb; replace BK375 := Aside0.mk (blk_below (g := gb375) (o := .cells #[.string t369, .int .i64 t370, .slice Ao100 t371.length co100] 35 (0, 0)) (by (with_reducible repeat (first | refine blk_drewN ?_ _ | refine blk_drew ?_ | refine blk_alloc ?_ _)); refine blk_put (cs := #[.string t369, .int .i64 t370, .slice none 0 0]) ?_ 2 _ rfl; (with_reducible repeat (first | refine blk_drewN ?_ _ | refine blk_drew ?_ | refine blk_alloc ?_ _)); refine blk_put (cs := #[.string t369, .int .i64 0, .slice none 0 0]) ?_ 1 _ rfl; (with_reducible repeat (first | refine blk_drewN ?_ _ | refine blk_drew ?_ | refine blk_alloc ?_ _)); refine blk_put (cs := #[.string (⟨#[]⟩ : ByteArray), .int .i64 0, .slice none 0 0]) ?_ 0 _ rfl; (with_reducible repeat (first | refine blk_drewN ?_ _ | refine blk_drew ?_ | refine blk_alloc ?_ _)); exact BK375.out) hb); (try clear hb); (try clear hb2); (try clear hk); (try clear hi)))
                                go_ret
                                exact ⟨by first | rfl | (simp [errW_none, errW_some] <;> rfl) | (simp [*, errW_none, errW_some] <;> rfl), hbT HB.out⟩
                            · rw [if_neg c75] at H
                              have c75b0 : (t374 == 0) = false := beq_eq_false_iff_ne.mpr c75
                              have c75b1 : (t374 != 0) = true := bne_iff_ne.mpr c75
                              obtain rfl := Option.some.inj H
                              try go_wp2
                              replace HO_15 := Aside0.mk (Kd.N_drew HO_15.out); replace BK345 := bdA BK345; replace BK346 := bdA BK346; replace HB := Aside0.mk (below_drew1 HB.out)
                              obtain ⟨Ao109, co109, eo109⟩ := Kd.N_slice HO_15.out
                              (first | subst eo109 | (injection eo109 with f1_ f2_ f3_; have f4_ := f1_.symm; have f5_ := f3_.symm; clear f1_ f2_ f3_; subst f4_; subst f5_))
                              have p368 : 0 ≤ (0 : Int) := (by omega)
                              have q368 : 0 < (t361.length : Int) := of_decide_eq_true (by first | (with_reducible assumption) | assumption)
                              obtain ⟨ad368, A368_0, c368_0, e368, hx368_0, hl368_0, hi368_0⟩ := at_L1 (Kd.N_reads' HO_15.out).2.2 0 p368 q368
                              cases e368
                              obtain ⟨ce368, hce368, hMe368, hcc368⟩ := Kd.N_get HO_15.out [] 0 p368 (by first | exact q368 | exact of_decide_eq_true (by first | (with_reducible assumption) | assumption) | (have e_ := (Kd.N_reads' HO_15.out).1; omega))
                              obtain ⟨ua368_0, uc368_0, rfl, ul368_0, ge368_0⟩ := Kd.FK_slice_open hMe368
                              have hv368_0 := hcc368 0 _ rfl
                              rw [Nat.add_zero, show ((Kd.slice 9 Kd.string)).sz = 1 from rfl, Nat.mul_one] at hv368_0
                              replace hv368_0 := Option.some.inj (hv368_0.symm.trans hx368_0)
                              injection hv368_0 with hva_ hvn_ hvc_
                              rw [hva_] at ge368_0
                              rw [hvc_] at ul368_0
                              have HL368_0 := Aside0.mk (show Kd.V Kd.string 9 _ w.heap.size _ _ (rd_L1 t361 0) from Kd.V_mk ul368_0 ge368_0)
                              clear hva_ hvn_ hvc_ ge368_0 ul368_0
                              clear hcc368 hce368
                              have qi368 : (0 < t361.length) = True := eq_true (by omega)
                              (try rw [show ((0 : Int)).toNat = 0 from rfl] at hx368_0)
                              (try rw [Addr.add_zero'] at hx368_0)
                              have HR368_0 := Aside0.mk hi368_0
                              have HC368_0 := Aside0.mk hl368_0
                              clear hi368_0 hl368_0
                              replace p368 := eq_true p368
                              replace q368 := eq_true q368
                              refine start_ (n := 11) (S := fun w' => w'.cell? ⟨gb345, 0, none⟩ = some (.string a0_0) ∧ w'.cell? ⟨gb345, 1, none⟩ = some (.slice A0_1 l0_1.length c0_1) ∧ w'.cell? ad368 = some (.slice A368_0 (rd_L1 t361 0).length c368_0)) (ds := []) #[false, false, false, false, false, false, false, false, false, false, false] (by kernel_rfl) rfl rfl ⟨(blk_cell BK345.out 0).trans rfl, (blk_cell BK345.out 1).trans rfl, hx368_0⟩ (fun hHeld => ?_); refine with_tabW refrainlaw4_CsvCarries.tab20 refrainlaw4_CsvCarries.bits20 (fun HT_ HW_ => ?_)
                              generalize wc.drew = w108 at HO_15 BK345 BK346 HB HL368_0 HR368_0 hx368_0 hHeld ⊢
                              refine pure_ (i := 1) (N := some 132) (v := ?_) (a' := ?_) #[false, true, false, false, false, false, false, false, false, false, false] rfl rfl (any_of HT_.out (by kernel_rfl)) (fun _ _ _ h => h) (Or.inl ⟨by rfl, ?_⟩) ?_ ?_
                              rotate_left; (focus (intro w'; go_simp; with_reducible rfl)); rotate_left; (focus (simp only [Act.put, List.setIfInBounds_toArray, List.set_cons_zero, List.set_cons_succ, i64_w, i32_w, IntKind.wrap_u8, IntKind.wrap_u16, IntKind.wrap_u32]; rfl))
                              refine pure_ (i := 2) (N := some 133) (v := ?_) (a' := ?_) #[false, true, true, false, false, false, false, false, false, false, false] rfl rfl (any_of HT_.out (by kernel_rfl)) (fun _ _ _ h => h) (Or.inl ⟨by rfl, ?_⟩) ?_ ?_
                              rotate_left; (focus (intro w'; go_simp; with_reducible rfl)); rotate_left; (focus (simp only [Act.put, List.setIfInBounds_toArray, List.set_cons_zero, List.set_cons_succ, i64_w, i32_w, IntKind.wrap_u8, IntKind.wrap_u16, IntKind.wrap_u32]; rfl))
                              refine take_ (i := 0) (N := some 131) (v := ?_) (a' := ?_) #[true, true, true, false, false, false, false, false, false, false, false] rfl rfl (take_ofW HT_.out HW_.out (by kernel_rfl)) (fun _ _ _ h => h) (Or.inl ⟨by rfl, ?_⟩) hHeld ?_ ?_
                              rotate_left; (focus (rintro w' ⟨s0, s1, s2⟩; go_simp; with_reducible rfl)); rotate_left; (focus (simp only [Act.put, List.setIfInBounds_toArray, List.set_cons_zero, List.set_cons_succ, i64_w, i32_w, IntKind.wrap_u8, IntKind.wrap_u16, IntKind.wrap_u32]; rfl))
                              refine take_ (i := 3) (N := some 134) (v := ?_) (a' := ?_) #[true, true, true, true, false, false, false, false, false, false, false] rfl rfl (take_ofW HT_.out HW_.out (by kernel_rfl)) (fun _ _ _ h => h) (Or.inl ⟨by rfl, ?_⟩) hHeld ?_ ?_
                              rotate_left; (focus (rintro w' ⟨s0, s1, s2⟩; go_simp; with_reducible rfl)); rotate_left; (focus (simp only [Act.put, List.setIfInBounds_toArray, List.set_cons_zero, List.set_cons_succ, i64_w, i32_w, IntKind.wrap_u8, IntKind.wrap_u16, IntKind.wrap_u32]; rfl))
                              refine join_ (σ := Value × Nat) 2 #[true, true, true, true, true, true, true, true, true, false, false] (fun s_ => [(135, .tuple #[.agg #[.string t369, .int .i64 t370, s_.1], .int .i64 t374]), (18, .pointer (some ⟨s_.2, 0, none⟩)), (130, .tuple #[.agg #[.string t369, .int .i64 t370, s_.1], .int .i64 t374]), (136, .agg #[.string t369, .int .i64 t370, s_.1]), (137, .int .i64 t374)]) (fun s_ w' => (w'.cell? ⟨gb345, 0, none⟩ = some (.string a0_0) ∧ w'.cell? ⟨gb345, 1, none⟩ = some (.slice A0_1 l0_1.length c0_1) ∧ w'.cell? ad368 = some (.slice A368_0 (rd_L1 t361 0).length c368_0)) ∧ (Kd.V Kd.string 9 w' w.heap.size (fun k_ => some k_ ≠ (s_.1 : Value).ownBlock ∧ some k_ ≠ (.slice (some ad368) t361.length co109 : Value).ownBlock ∧ k_ ≠ gb345 ∧ k_ ≠ gb346 ∧ k_ ≠ s_.2) (.slice A368_0 (rd_L1 t361 0).length c368_0) (rd_L1 t361 0)) ∧ (Kd.R k43 43 w' w.heap.size (fun _ => True) s_.1 t371) ∧ (Kd.N (Kd.slice 9 Kd.string) 39 w' w.heap.size (fun k_ => some k_ ≠ (s_.1 : Value).ownBlock ∧ k_ ≠ gb345 ∧ k_ ≠ gb346 ∧ k_ ≠ s_.2) (.slice (some ad368) t361.length co109) t361) ∧ (w'.heap[gb345]? = some (.cells #[.string a0_0, .slice A0_1 l0_1.length c0_1] 24 (0, 0))) ∧ (w'.heap[gb346]? = some (.cells #[.string a1_0, .int .i64 a1_1, .slice A1_2 l1_2.length c1_2] 35 (0, 0))) ∧ (w'.heap[s_.2]? = some (.cells #[.string (⟨#[]⟩ : ByteArray), .int .i64 0, .slice none 0 0] 35 (0, 0))) ∧ (w.heap.size ≤ s_.2) ∧ (w.heap.size ≤ s_.2) ∧ (gb345 ≠ s_.2) ∧ (s_.2 ≠ gb345) ∧ (gb346 ≠ s_.2) ∧ (s_.2 ≠ gb346) ∧ (Below w.heap.size w w')) ?_ ?_
                              rotate_left
                              · intro hCont
                                refine two_ (i := 4) (j := 8) (Ni := some 135) (Nj := some 18) #[true, true, true, true, true, false, false, false, false, false, false] #[true, true, true, true, false, false, false, false, true, false, false] rfl rfl rfl rfl (two_of HT_.out (by kernel_rfl)) (by decide) (by decide) (fun K hK => ?_) (fun K hK => ?_)
                                · skip
                                  refine goes_ Tryz.func10 (by kernel_rfl) rfl #[.agg #[.string a0_0, .slice A0_1 l0_1.length c0_1], .slice A368_0 (rd_L1 t361 0).length c368_0] (by rfl) rfl rfl (by (try simp only [List.map_toArray, List.map_cons, List.map_nil]); first | done | rfl | (simp only [List.length_drop, List.length_take]; rfl)) ?_
                                  with_reducible refine (csv_Event.calls a0_0 _ _ l0_1 _ _ (rd_L1 t361 0) t369 t370 t371 t374 _ ?side1 ?side2 ?side3 ?side4 ?side5 ?side6 ?side7 A74.out).mono ?_
                                  (case side1 => repeat (first | exact (Kd.C_below HR0_1.out HB.out) | (with_reducible refine Kd.C_alloc ?_ _) | (with_reducible refine Kd.C_drewN ?_ _) | (with_reducible refine Kd.C_drew ?_)))
                                  (case side2 => exact HC0_1.out)
                                  (case side3 => repeat (first | exact (by repeat (first | (with_reducible exact HR368_0.out) | (with_reducible refine Kd.C_alloc ?_ _) | (with_reducible refine Kd.C_drewN ?_ _) | (with_reducible refine Kd.C_drew ?_) | exact HR368_0.out)) | (with_reducible refine Kd.C_alloc ?_ _) | (with_reducible refine Kd.C_drewN ?_ _) | (with_reducible refine Kd.C_drew ?_)))
                                  (case side4 => exact HC368_0.out)
                                  (case side5 => first | (with_reducible exact HL_LErr) | exact ⟨LErr.below HL_LErr.out (hbT HB.out)⟩)
                                  (case side6 => first | (with_reducible exact HL_LG0) | exact ⟨LG0.below HL_LG0.out (hbT HB.out)⟩)
                                  (case side7 => first | (with_reducible exact HL_LSyn) | exact ⟨LSyn.below HL_LSyn.out (hbT HB.out)⟩)
                                  rintro e w110 ⟨v372, rfl, ho0, hb⟩
                                  have HS2_ := (hb.cell (World.block_lt_of_cell? _ _ (hHeld.2.2))).trans (hHeld.2.2)
                                  refine ⟨_, rfl, ?_⟩
                                  have HO373 := Aside0.mk (Kd.R_lower ho0 (below_size (hbT HB.out))); replace HO_15 := Aside0.mk (Kd.N_elder' (by (with_reducible repeat (first | apply Kd.N_alloc | apply Kd.N_drewN | apply Kd.N_drew)); exact HO_15.out) (Kd.R_base ho0) hb); replace HL368_0 := Aside0.mk (Kd.V_elder' (by (with_reducible repeat (first | apply Kd.V_alloc | apply Kd.V_drewN | apply Kd.V_drew)); exact HL368_0.out) (Kd.R_base ho0) hb); replace BK345 := bbA BK345 hb; replace BK346 := bbA BK346 hb; replace HR368_0 := Aside0.mk (Kd.C_below (by repeat (first | (with_reducible exact HR368_0.out) | (with_reducible refine Kd.C_alloc ?_ _) | (with_reducible refine Kd.C_drewN ?_ _) | (with_reducible refine Kd.C_drew ?_) | exact HR368_0.out)) hb); replace HB := bsA HB hb
                                  (try clear hb); (try clear hb2); (try clear hk); (try clear hi)
                                  (try clear ho0)
                                  refine hK.out _ _ ⟨(blk_cell BK345.out 0).trans rfl, (blk_cell BK345.out 1).trans rfl, HS2_⟩ (fun hHeld => ?_)
                                  clear hK K
                                  refine norm_ (a' := ?_) ?_ ?_
                                  rotate_left
                                  · show Act.put _ (some 135) _ = _
                                    simp only [Act.put, List.setIfInBounds_toArray, List.set_cons_zero, List.set_cons_succ, i64_w, i32_w, IntKind.wrap_u8, IntKind.wrap_u16, IntKind.wrap_u32]
                                    rfl
                                  refine pure_ (i := 5) (N := some 130) (v := ?_) (a' := ?_) #[true, true, true, true, true, true, false, false, false, false, false] rfl rfl (any_of HT_.out (by kernel_rfl)) (fun _ _ _ h => h) (Or.inl ⟨by rfl, ?_⟩) ?_ ?_
                                  rotate_left; (focus (intro w'; go_simp; with_reducible rfl)); rotate_left; (focus (simp only [Act.put, List.setIfInBounds_toArray, List.set_cons_zero, List.set_cons_succ, i64_w, i32_w, IntKind.wrap_u8, IntKind.wrap_u16, IntKind.wrap_u32]; rfl))
                                  refine pure_ (i := 6) (N := some 136) (v := ?_) (a' := ?_) #[true, true, true, true, true, true, true, false, false, false, false] rfl rfl (any_of HT_.out (by kernel_rfl)) (fun _ _ _ h => h) (Or.inl ⟨by rfl, ?_⟩) ?_ ?_
                                  rotate_left; (focus (intro w'; go_simp; with_reducible rfl)); rotate_left; (focus (simp only [Act.put, List.setIfInBounds_toArray, List.set_cons_zero, List.set_cons_succ, i64_w, i32_w, IntKind.wrap_u8, IntKind.wrap_u16, IntKind.wrap_u32]; rfl))
                                  refine pure_ (i := 7) (N := some 137) (v := ?_) (a' := ?_) #[true, true, true, true, true, true, true, true, false, false, false] rfl rfl (any_of HT_.out (by kernel_rfl)) (fun _ _ _ h => h) (Or.inl ⟨by rfl, ?_⟩) ?_ ?_
                                  rotate_left; (focus (intro w'; go_simp; with_reducible rfl)); rotate_left; (focus (simp only [Act.put, List.setIfInBounds_toArray, List.set_cons_zero, List.set_cons_succ, i64_w, i32_w, IntKind.wrap_u8, IntKind.wrap_u16, IntKind.wrap_u32]; rfl))
                                  refine one_ (i := 8) (N := some 18) #[true, true, true, true, true, true, true, true, true, false, false] rfl rfl (one_of HT_.out (by kernel_rfl)) (by decide) (fun K hK => ?_)
                                  refine box_step ?hg (N := 18) ?hd (cs := #[.string (⟨#[]⟩ : ByteArray), .int .i64 0, .slice none 0 0]) (t := 35) ?hr ?_; (case hd => rfl); (case hg => rfl); (case hr => first | (go_simp; done) | (go_simp; rfl))
                                  intro gb375 hg w111 hbox hb
                                  have HS2_ := (hb.cell (World.block_lt_of_cell? _ _ (hHeld.2.2))).trans (hHeld.2.2)
                                  have BK375 := Aside0.mk hbox; have GW375 := geA hg HB; have GE375 := geA hg HB; have NB345_375 := neA hg BK345; have NB375_345 := neB hg BK345; have NB346_375 := neA hg BK346; have NB375_346 := neB hg BK346; replace HO_15 := Aside0.mk (Kd.N_below (Kd.N_elderB (by (with_reducible repeat (first | apply Kd.N_alloc | apply Kd.N_drewN | apply Kd.N_drew)); exact HO_15.out) gb375 (Nat.le_of_eq hg.symm)) hb); replace HL368_0 := Aside0.mk (Kd.V_below (Kd.V_elderB (by (with_reducible repeat (first | apply Kd.V_alloc | apply Kd.V_drewN | apply Kd.V_drew)); exact HL368_0.out) gb375 (Nat.le_of_eq hg.symm)) hb); replace HO373 := Aside0.mk (Kd.R_below (by (with_reducible repeat (first | apply Kd.R_alloc | apply Kd.R_drewN | apply Kd.R_drew)); exact HO373.out) hb); replace BK345 := bbA BK345 hb; replace BK346 := bbA BK346 hb; replace HR368_0 := Aside0.mk (Kd.C_below (by repeat (first | (with_reducible exact HR368_0.out) | (with_reducible refine Kd.C_alloc ?_ _) | (with_reducible refine Kd.C_drewN ?_ _) | (with_reducible refine Kd.C_drew ?_) | exact HR368_0.out)) hb); replace HB := bsA HB hb
                                  clear hb hbox hg
                                  refine hK.out _ _ ⟨(blk_cell BK345.out 0).trans rfl, (blk_cell BK345.out 1).trans rfl, HS2_⟩ (fun hHeld => ?_)
                                  clear hK K
                                  refine norm_ (a' := ?_) ?_ ?_
                                  rotate_left
                                  · show Act.put _ (some 18) _ = _
                                    simp only [Act.put, List.setIfInBounds_toArray, List.set_cons_zero, List.set_cons_succ, i64_w, i32_w, IntKind.wrap_u8, IntKind.wrap_u16, IntKind.wrap_u32]
                                    rfl
                                  exact norm_ (by simp only [putAll, Act.put, List.setIfInBounds_toArray, List.set_cons_zero, List.set_cons_succ]) (hCont (v372, gb375) _ ⟨hHeld, (by (with_reducible repeat (first | apply Kd.V_alloc | apply Kd.V_drewN | apply Kd.V_drew)); exact Kd.V_mono HL368_0.out (fun _ hk => ⟨hk.1.2, ⟨hk.1.1.2, ⟨hk.1.1.1.1, ⟨hk.1.1.1.2, hk.2⟩⟩⟩⟩)), (by (with_reducible repeat (first | apply Kd.R_alloc | apply Kd.R_drewN | apply Kd.R_drew)); exact HO373.out), (by (with_reducible repeat (first | apply Kd.N_alloc | apply Kd.N_drewN | apply Kd.N_drew)); exact Kd.N_mono HO_15.out (fun _ hk => ⟨hk.1.2, ⟨hk.1.1.1, ⟨hk.1.1.2, hk.2⟩⟩⟩)), (bkT BK345.out), (bkT BK346.out), (bkT BK375.out), GW375.out, GE375.out, NB345_375.out, NB375_345.out, NB346_375.out, NB375_346.out, (hbT HB.out)⟩)
                                · skip
                                  refine box_step ?hg (N := 18) ?hd (cs := #[.string (⟨#[]⟩ : ByteArray), .int .i64 0, .slice none 0 0]) (t := 35) ?hr ?_; (case hd => rfl); (case hg => rfl); (case hr => first | (go_simp; done) | (go_simp; rfl))
                                  intro gb375 hg w110 hbox hb
                                  have HS2_ := (hb.cell (World.block_lt_of_cell? _ _ (hHeld.2.2))).trans (hHeld.2.2)
                                  have BK375 := Aside0.mk hbox; have GW375 := geA hg HB; have GE375 := geA hg HB; have NB345_375 := neA hg BK345; have NB375_345 := neB hg BK345; have NB346_375 := neA hg BK346; have NB375_346 := neB hg BK346; replace HO_15 := Aside0.mk (Kd.N_below (Kd.N_elderB (by (with_reducible repeat (first | apply Kd.N_alloc | apply Kd.N_drewN | apply Kd.N_drew)); exact HO_15.out) gb375 (Nat.le_of_eq hg.symm)) hb); replace HL368_0 := Aside0.mk (Kd.V_below (Kd.V_elderB (by (with_reducible repeat (first | apply Kd.V_alloc | apply Kd.V_drewN | apply Kd.V_drew)); exact HL368_0.out) gb375 (Nat.le_of_eq hg.symm)) hb); replace BK345 := bbA BK345 hb; replace BK346 := bbA BK346 hb; replace HR368_0 := Aside0.mk (Kd.C_below (by repeat (first | (with_reducible exact HR368_0.out) | (with_reducible refine Kd.C_alloc ?_ _) | (with_reducible refine Kd.C_drewN ?_ _) | (with_reducible refine Kd.C_drew ?_) | exact HR368_0.out)) hb); replace HB := bsA HB hb
                                  clear hb hbox hg
                                  refine hK.out _ _ ⟨(blk_cell BK345.out 0).trans rfl, (blk_cell BK345.out 1).trans rfl, HS2_⟩ (fun hHeld => ?_)
                                  clear hK K
                                  refine norm_ (a' := ?_) ?_ ?_
                                  rotate_left
                                  · show Act.put _ (some 18) _ = _
                                    simp only [Act.put, List.setIfInBounds_toArray, List.set_cons_zero, List.set_cons_succ, i64_w, i32_w, IntKind.wrap_u8, IntKind.wrap_u16, IntKind.wrap_u32]
                                    rfl
                                  refine one_ (i := 4) (N := some 135) #[true, true, true, true, true, false, false, false, true, false, false] rfl rfl (one_of HT_.out (by kernel_rfl)) (by decide) (fun K hK => ?_)
                                  refine goes_ Tryz.func10 (by kernel_rfl) rfl #[.agg #[.string a0_0, .slice A0_1 l0_1.length c0_1], .slice A368_0 (rd_L1 t361 0).length c368_0] (by rfl) rfl rfl (by (try simp only [List.map_toArray, List.map_cons, List.map_nil]); first | done | rfl | (simp only [List.length_drop, List.length_take]; rfl)) ?_
                                  with_reducible refine (csv_Event.calls a0_0 _ _ l0_1 _ _ (rd_L1 t361 0) t369 t370 t371 t374 _ ?side1 ?side2 ?side3 ?side4 ?side5 ?side6 ?side7 A74.out).mono ?_
                                  (case side1 => repeat (first | exact (Kd.C_below HR0_1.out HB.out) | (with_reducible refine Kd.C_alloc ?_ _) | (with_reducible refine Kd.C_drewN ?_ _) | (with_reducible refine Kd.C_drew ?_)))
                                  (case side2 => exact HC0_1.out)
                                  (case side3 => repeat (first | exact (by repeat (first | (with_reducible exact HR368_0.out) | (with_reducible refine Kd.C_alloc ?_ _) | (with_reducible refine Kd.C_drewN ?_ _) | (with_reducible refine Kd.C_drew ?_) | exact HR368_0.out)) | (with_reducible refine Kd.C_alloc ?_ _) | (with_reducible refine Kd.C_drewN ?_ _) | (with_reducible refine Kd.C_drew ?_)))
                                  (case side4 => exact HC368_0.out)
                                  (case side5 => first | (with_reducible exact HL_LErr) | exact ⟨LErr.below HL_LErr.out (hbT HB.out)⟩)
                                  (case side6 => first | (with_reducible exact HL_LG0) | exact ⟨LG0.below HL_LG0.out (hbT HB.out)⟩)
                                  (case side7 => first | (with_reducible exact HL_LSyn) | exact ⟨LSyn.below HL_LSyn.out (hbT HB.out)⟩)
                                  rintro e w111 ⟨v372, rfl, ho0, hb⟩
                                  have HS2_ := (hb.cell (World.block_lt_of_cell? _ _ (hHeld.2.2))).trans (hHeld.2.2)
                                  refine ⟨_, rfl, ?_⟩
                                  have HO373 := Aside0.mk (Kd.R_lower ho0 (below_size (hbT HB.out))); replace HO_15 := Aside0.mk (Kd.N_elder' (by (with_reducible repeat (first | apply Kd.N_alloc | apply Kd.N_drewN | apply Kd.N_drew)); exact HO_15.out) (Kd.R_base ho0) hb); replace HL368_0 := Aside0.mk (Kd.V_elder' (by (with_reducible repeat (first | apply Kd.V_alloc | apply Kd.V_drewN | apply Kd.V_drew)); exact HL368_0.out) (Kd.R_base ho0) hb); replace BK345 := bbA BK345 hb; replace BK346 := bbA BK346 hb; replace HR368_0 := Aside0.mk (Kd.C_below (by repeat (first | (with_reducible exact HR368_0.out) | (with_reducible refine Kd.C_alloc ?_ _) | (with_reducible refine Kd.C_drewN ?_ _) | (with_reducible refine Kd.C_drew ?_) | exact HR368_0.out)) hb); replace BK375 := bbA BK375 hb; replace HB := bsA HB hb
                                  (try clear hb); (try clear hb2); (try clear hk); (try clear hi)
                                  (try clear ho0)
                                  refine hK.out _ _ ⟨(blk_cell BK345.out 0).trans rfl, (blk_cell BK345.out 1).trans rfl, HS2_⟩ (fun hHeld => ?_)
                                  clear hK K
                                  refine norm_ (a' := ?_) ?_ ?_
                                  rotate_left
                                  · show Act.put _ (some 135) _ = _
                                    simp only [Act.put, List.setIfInBounds_toArray, List.set_cons_zero, List.set_cons_succ, i64_w, i32_w, IntKind.wrap_u8, IntKind.wrap_u16, IntKind.wrap_u32]
                                    rfl
                                  refine pure_ (i := 5) (N := some 130) (v := ?_) (a' := ?_) #[true, true, true, true, true, true, false, false, true, false, false] rfl rfl (any_of HT_.out (by kernel_rfl)) (fun _ _ _ h => h) (Or.inl ⟨by rfl, ?_⟩) ?_ ?_
                                  rotate_left; (focus (intro w'; go_simp; with_reducible rfl)); rotate_left; (focus (simp only [Act.put, List.setIfInBounds_toArray, List.set_cons_zero, List.set_cons_succ, i64_w, i32_w, IntKind.wrap_u8, IntKind.wrap_u16, IntKind.wrap_u32]; rfl))
                                  refine pure_ (i := 6) (N := some 136) (v := ?_) (a' := ?_) #[true, true, true, true, true, true, true, false, true, false, false] rfl rfl (any_of HT_.out (by kernel_rfl)) (fun _ _ _ h => h) (Or.inl ⟨by rfl, ?_⟩) ?_ ?_
                                  rotate_left; (focus (intro w'; go_simp; with_reducible rfl)); rotate_left; (focus (simp only [Act.put, List.setIfInBounds_toArray, List.set_cons_zero, List.set_cons_succ, i64_w, i32_w, IntKind.wrap_u8, IntKind.wrap_u16, IntKind.wrap_u32]; rfl))
                                  refine pure_ (i := 7) (N := some 137) (v := ?_) (a' := ?_) #[true, true, true, true, true, true, true, true, true, false, false] rfl rfl (any_of HT_.out (by kernel_rfl)) (fun _ _ _ h => h) (Or.inl ⟨by rfl, ?_⟩) ?_ ?_
                                  rotate_left; (focus (intro w'; go_simp; with_reducible rfl)); rotate_left; (focus (simp only [Act.put, List.setIfInBounds_toArray, List.set_cons_zero, List.set_cons_succ, i64_w, i32_w, IntKind.wrap_u8, IntKind.wrap_u16, IntKind.wrap_u32]; rfl))
                                  exact norm_ (by simp only [putAll, Act.put, List.setIfInBounds_toArray, List.set_cons_zero, List.set_cons_succ]) (hCont (v372, gb375) _ ⟨hHeld, (by (with_reducible repeat (first | apply Kd.V_alloc | apply Kd.V_drewN | apply Kd.V_drew)); exact Kd.V_mono HL368_0.out (fun _ hk => ⟨hk.2, ⟨hk.1.1.2, ⟨hk.1.1.1.1, ⟨hk.1.1.1.2, hk.1.2⟩⟩⟩⟩)), (by (with_reducible repeat (first | apply Kd.R_alloc | apply Kd.R_drewN | apply Kd.R_drew)); exact HO373.out), (by (with_reducible repeat (first | apply Kd.N_alloc | apply Kd.N_drewN | apply Kd.N_drew)); exact Kd.N_mono HO_15.out (fun _ hk => ⟨hk.2, ⟨hk.1.1.1, ⟨hk.1.1.2, hk.1.2⟩⟩⟩)), (bkT BK345.out), (bkT BK346.out), (bkT BK375.out), GW375.out, GE375.out, NB345_375.out, NB375_345.out, NB346_375.out, NB375_346.out, (hbT HB.out)⟩)
                              rintro ⟨v372, gb375⟩ w112 ⟨hS_, h0_, h1_, h2_, h3_, h4_, h5_, h6_, h7_, h8_, h9_, h10_, h11_, h12_⟩
                              have n0_ : Aside0 (Kd.V Kd.string 9 w112 w.heap.size (fun k_ => some k_ ≠ (v372 : Value).ownBlock ∧ some k_ ≠ (.slice (some ad368) t361.length co109 : Value).ownBlock ∧ k_ ≠ gb345 ∧ k_ ≠ gb346 ∧ k_ ≠ gb375) (.slice A368_0 (rd_L1 t361 0).length c368_0) (rd_L1 t361 0)) := ⟨h0_⟩
                              have n1_ : Aside0 (Kd.R k43 43 w112 w.heap.size (fun _ => True) v372 t371) := ⟨h1_⟩
                              have n2_ : Aside0 (Kd.N (Kd.slice 9 Kd.string) 39 w112 w.heap.size (fun k_ => some k_ ≠ (v372 : Value).ownBlock ∧ k_ ≠ gb345 ∧ k_ ≠ gb346 ∧ k_ ≠ gb375) (.slice (some ad368) t361.length co109) t361) := ⟨h2_⟩
                              have n3_ : Aside0 (w112.heap[gb345]? = some (.cells #[.string a0_0, .slice A0_1 l0_1.length c0_1] 24 (0, 0))) := ⟨h3_⟩
                              have n4_ : Aside0 (w112.heap[gb346]? = some (.cells #[.string a1_0, .int .i64 a1_1, .slice A1_2 l1_2.length c1_2] 35 (0, 0))) := ⟨h4_⟩
                              have n5_ : Aside0 (w112.heap[gb375]? = some (.cells #[.string (⟨#[]⟩ : ByteArray), .int .i64 0, .slice none 0 0] 35 (0, 0))) := ⟨h5_⟩
                              have n6_ : Aside0 (w.heap.size ≤ gb375) := ⟨h6_⟩
                              have n7_ : Aside0 (w.heap.size ≤ gb375) := ⟨h7_⟩
                              have n8_ : Aside0 (gb345 ≠ gb375) := ⟨h8_⟩
                              have n9_ : Aside0 (gb375 ≠ gb345) := ⟨h9_⟩
                              have n10_ : Aside0 (gb346 ≠ gb375) := ⟨h10_⟩
                              have n11_ : Aside0 (gb375 ≠ gb346) := ⟨h11_⟩
                              have n12_ : Aside0 (Below w.heap.size w w112) := ⟨h12_⟩
                              clear HO_15; clear BK345
                              clear BK346; clear HB
                              clear h0_ h1_ h2_ h3_ h4_ h5_ h6_ h7_ h8_ h9_ h10_ h11_ h12_
                              have HL368_0 := n0_
                              have HO373 := n1_
                              have HO_15 := n2_
                              have BK345 := n3_
                              have BK346 := n4_
                              have BK375 := n5_
                              have GW375 := n6_
                              have GE375 := n7_
                              have NB345_375 := n8_
                              have NB375_345 := n9_
                              have NB346_375 := n10_
                              have NB375_346 := n11_
                              have HB := n12_
                              clear n0_ n1_ n2_ n3_ n4_ n5_ n6_ n7_ n8_ n9_ n10_ n11_ n12_
                              have hHeld : w112.cell? ⟨gb345, 0, none⟩ = some (.string a0_0) ∧ w112.cell? ⟨gb345, 1, none⟩ = some (.slice A0_1 l0_1.length c0_1) ∧ w112.cell? ad368 = some (.slice A368_0 (rd_L1 t361 0).length c368_0) := hS_
                              obtain ⟨Ao115, co115, eo115⟩ := Kd.R_slice HO373.out
                              (first | subst eo115 | (injection eo115 with f1_ f2_ f3_; have f4_ := f1_.symm; have f5_ := f3_.symm; clear f1_ f2_ f3_; subst f4_; subst f5_))
                              refine norm_ (a' := ?_) ?_ ?_
                              rotate_left
                              · simp only [putAll, Act.put, List.setIfInBounds_toArray, List.set_cons_zero, List.set_cons_succ]
                                rfl
                              refine one_ (i := 9) (N := none) #[true, true, true, true, true, true, true, true, true, true, false] rfl rfl (one_of HT_.out (by kernel_rfl)) (by decide) (fun K hK => ?_)
                              have hs113 : w112.cell? ⟨gb375, 0, none⟩ = some (.string (⟨#[]⟩ : ByteArray)) := (blk_cell BK375.out 0).trans rfl
                              have hfs113 := blk_frozen BK375.out 0; have hns113_0 := NB345_375.out; have hns113_1 := NB346_375.out; have hms113_0 := NB375_345.out; have hms113_1 := NB375_346.out
                              have hs114 : w112.cell? ⟨gb375, 1, none⟩ = some (.int .i64 0) := (blk_cell BK375.out 1).trans rfl
                              have hfs114 := blk_frozen BK375.out 1; have hns114_0 := NB345_375.out; have hns114_1 := NB346_375.out; have hms114_0 := NB375_345.out; have hms114_1 := NB375_346.out
                              have hs116 : w112.cell? ⟨gb375, 2, none⟩ = some (.slice none 0 0) := (blk_cell BK375.out 2).trans rfl
                              have hfs116 := blk_frozen BK375.out 2; have hns116_0 := NB345_375.out; have hns116_1 := NB346_375.out; have hms116_0 := NB375_345.out; have hms116_1 := NB375_346.out
                              refine skip_ (w1 := ?_) (by rfl) rfl ?_ ?_
                              rotate_left
                              · go_simp
                                rfl
                              refine hK.out _ _ ⟨(cfT NB345_375.out (hHeld.1)), (cfT NB345_375.out (hHeld.2.1)), (cfT (by first | exact Kd.own_blk (Kd.N_away HO_15.out (fun _ hk => hk.2.2.2)) | (rw [add_block]; exact Kd.own_blk (Kd.N_away HO_15.out (fun _ hk => hk.2.2.2))) | (show (Addr.add _ _).block ≠ _; rw [add_block]; exact Kd.own_blk (Kd.N_away HO_15.out (fun _ hk => hk.2.2.2))) | (dsimp only; exact Kd.own_blk (Kd.N_away HO_15.out (fun _ hk => hk.2.2.2)))) (hHeld.2.2))⟩ (fun hHeld => ?_)
                              clear hK K
                              refine pure_ (i := 10) (N := some 19) (v := ?_) (a' := ?_) #[true, true, true, true, true, true, true, true, true, true, true] rfl rfl (any_of HT_.out (by kernel_rfl)) (fun _ _ _ h => h) (Or.inl ⟨by rfl, ?_⟩) ?_ ?_
                              rotate_left; (focus (intro w'; go_simp; with_reducible rfl)); rotate_left; (focus (simp only [Act.put, List.setIfInBounds_toArray, List.set_cons_zero, List.set_cons_succ, i64_w, i32_w, IntKind.wrap_u8, IntKind.wrap_u16, IntKind.wrap_u32]; rfl))
                              refine done_ (done_of HT_.out (by kernel_rfl)) ?_
                              try go_wp2
                              go_ret
                              exact ⟨by first | rfl | (simp [errW_none, errW_some] <;> rfl) | (simp [*, errW_none, errW_some] <;> rfl), hbT HB.out⟩
                          · rw [if_neg c73] at H
                            exact absurd H (by simp)
                  · rw [if_neg c57] at H
                    have c57b0 : (t360 == 0) = false := beq_eq_false_iff_ne.mpr c57
                    have c57b1 : (t360 != 0) = true := bne_iff_ne.mpr c57
                    (first | rw [c57b0] | (simp only [i64_w, i32_w, IntKind.wrap_u8, IntKind.wrap_u16, IntKind.wrap_u32]; rw [c57b0]) | skip)
                    by_cases c117 : t360 = 2
                    · rw [if_pos c117] at H
                      have c117b0 : (t360 == 2) = true := beq_iff_eq.mpr c117
                      have c117b1 : (t360 != 2) = false := bne_eq_false_iff_eq.mpr c117
                      clear c117
                      obtain rfl := Option.some.inj H
                      obtain ⟨Ao118, co118, eo118⟩ := Kd.R_slice HO354.out
                      subst eo118
                      go_wp2_with (first | ((with_reducible refine gate_dst (N := 95) rfl ?_); (try (refine gate_guard (by rfl) ?_; dsimp only)); refine Kd.N_lit (Kd.slice 9 Kd.string) _ 39 ?hg (N' := 95) ?hd (xs := ([t352] : List (List ByteArray))) (inner := [.slice Ao118 t352.length co118]) (ok := (fun k_ => k_ ≠ gb345 ∧ k_ ≠ gb346)) (okp := (fun k_ => k_ ≠ gb345 ∧ k_ ≠ gb346)) ?hr ?hp (fun _ hk => hk) ((show ∀ k_, w54.heap.size ≤ k_ → (fun k_ => k_ ≠ gb345 ∧ k_ ≠ gb346) k_ from fun k_ hk => ⟨Kd.freshB (g := gb345) (o := .cells #[.string a0_0, .slice A0_1 l0_1.length c0_1] 24 (0, 0)) (bkT BK345.out) k_ hk, Kd.freshB (g := gb346) (o := .cells #[.string a1_0, .int .i64 a1_1, .slice A1_2 l1_2.length c1_2] 35 (0, 0)) (bkT BK346.out) k_ hk⟩) _ (Nat.le_refl _)) (Below.refl _ _) (Nat.le_refl _) (by simp) ?_; (case hd => rfl); (case hg => rfl); (case hr => first | (go_simp; done) | (go_simp; rfl)); (case hp => exact (Reps.one (show Kd.FK (Kd.slice 9 Kd.string) _ _ t352 [.slice Ao118 t352.length co118] from (Kd.FK_slice_mk (Kd.R_reads' (Kd.R_mono (ok' := (fun k_ => k_ ≠ gb345 ∧ k_ ≠ gb346)) (Kd.R_types (Kd.R_types (HO354.out) BK345.out (by decide)) BK346.out (by decide)) (fun k_ hk => ⟨hk.1.2, hk.2⟩))).2.1 (Kd.R_F (Kd.R_mono (ok' := (fun k_ => k_ ≠ gb345 ∧ k_ ≠ gb346)) (Kd.R_types (Kd.R_types (HO354.out) BK345.out (by decide)) BK346.out (by decide)) (fun k_ hk => ⟨hk.1.2, hk.2⟩))))) (Reps.none _ _))); intro v357 w119 ho120 hb hg_ hnew_; clear hg_ hnew_; (first | rw [← Ny356.out] at ho120 | (simp only [Int.reduceToNat] at ho120; rw [← Ny356.out] at ho120)); have n0_ := Aside0.mk (Kd.N_lower ho120 (below_size (hbT HB.out))); have n1_ := Aside0.mk (bbT BK345.out hb); have n2_ := Aside0.mk (bbT BK346.out hb); have n3_ := Aside0.mk (below_step (hbT HB.out) hb); clear BK345; clear BK346; have n9_ := Aside0.mk (Kd.R_below HO354.out hb); clear HB; clear HO354; have HO354 := n9_; clear n9_; have HO358 := n0_; have BK345 := n1_; have BK346 := n2_; have HB := n3_; clear n0_ n1_ n2_ n3_; clear hb ho120; obtain ⟨Ao121, co121, eo121⟩ := Kd.N_slice HO358.out; subst eo121) | ((with_reducible refine gate_callee (f := 18) rfl ?_); refine goesT (some 96) Tryz.func18 #[.slice Ao121 y356.length co121] ?_; (with_reducible refine (csv_Join.calls _ _ y356 t359 t360 _ ?side1 ?side2 ?side3 A56.out).mono ?_); (case side1 => repeat (first | exact (Kd.N_reads' HO358.out).2.2 | (with_reducible refine Kd.C_alloc ?_ _) | (with_reducible refine Kd.C_drewN ?_ _) | (with_reducible refine Kd.C_drew ?_))); (case side2 => exact (Kd.N_reads' HO358.out).2.1); (case side3 => first | (with_reducible exact HL_LMax) | exact ⟨LMax.below HL_LMax.out (hbT HB.out)⟩); rintro e w122 ⟨rfl, hb⟩; refine ⟨_, rfl, ?_⟩; replace HO358 := Aside0.mk (Kd.N_below (by (with_reducible repeat (first | apply Kd.N_alloc | apply Kd.N_drewN | apply Kd.N_drew)); exact HO358.out) hb); replace BK345 := bbA BK345 hb; replace BK346 := bbA BK346 hb; replace HB := bsA HB hb; (try replace HO354 := Aside0.mk (Kd.R_below HO354.out hb)); (try clear hb); (try clear hb2); (try clear hk); (try clear hi); have hnb123 := NB346_345.out; have hnc123 := NB345_346.out; have hcz124_0 : w122.cell? ⟨gb346, 0, none⟩ = some (.string a1_0) := (blk_cell BK346.out 0).trans rfl; have hcz124_1 : w122.cell? ⟨gb346, 1, none⟩ = some (.int .i64 a1_1) := (blk_cell BK346.out 1).trans rfl; have hcz124_2 : w122.cell? ⟨gb346, 2, none⟩ = some (.slice A1_2 l1_2.length c1_2) := (blk_cell BK346.out 2).trans rfl; have hfz124_0 := blk_frozen BK346.out 0; have hfz124_1 := blk_frozen BK346.out 1; have hfz124_2 := blk_frozen BK346.out 2))
                      go_ret
                      exact ⟨by first | rfl | (simp [errW_none, errW_some] <;> rfl) | (simp [*, errW_none, errW_some] <;> rfl), hbT HB.out⟩
                    · rw [if_neg c117] at H
                      have c117b0 : (t360 == 2) = false := beq_eq_false_iff_ne.mpr c117
                      have c117b1 : (t360 != 2) = true := bne_iff_ne.mpr c117
                      obtain rfl := Option.some.inj H
                      obtain ⟨Ao125, co125, eo125⟩ := Kd.R_slice HO354.out
                      subst eo125
                      go_wp2_with (first | ((with_reducible refine gate_dst (N := 95) rfl ?_); (try (refine gate_guard (by rfl) ?_; dsimp only)); refine Kd.N_lit (Kd.slice 9 Kd.string) _ 39 ?hg (N' := 95) ?hd (xs := ([t352] : List (List ByteArray))) (inner := [.slice Ao125 t352.length co125]) (ok := (fun k_ => k_ ≠ gb345 ∧ k_ ≠ gb346)) (okp := (fun k_ => k_ ≠ gb345 ∧ k_ ≠ gb346)) ?hr ?hp (fun _ hk => hk) ((show ∀ k_, w54.heap.size ≤ k_ → (fun k_ => k_ ≠ gb345 ∧ k_ ≠ gb346) k_ from fun k_ hk => ⟨Kd.freshB (g := gb345) (o := .cells #[.string a0_0, .slice A0_1 l0_1.length c0_1] 24 (0, 0)) (bkT BK345.out) k_ hk, Kd.freshB (g := gb346) (o := .cells #[.string a1_0, .int .i64 a1_1, .slice A1_2 l1_2.length c1_2] 35 (0, 0)) (bkT BK346.out) k_ hk⟩) _ (Nat.le_refl _)) (Below.refl _ _) (Nat.le_refl _) (by simp) ?_; (case hd => rfl); (case hg => rfl); (case hr => first | (go_simp; done) | (go_simp; rfl)); (case hp => exact (Reps.one (show Kd.FK (Kd.slice 9 Kd.string) _ _ t352 [.slice Ao125 t352.length co125] from (Kd.FK_slice_mk (Kd.R_reads' (Kd.R_mono (ok' := (fun k_ => k_ ≠ gb345 ∧ k_ ≠ gb346)) (Kd.R_types (Kd.R_types (HO354.out) BK345.out (by decide)) BK346.out (by decide)) (fun k_ hk => ⟨hk.1.2, hk.2⟩))).2.1 (Kd.R_F (Kd.R_mono (ok' := (fun k_ => k_ ≠ gb345 ∧ k_ ≠ gb346)) (Kd.R_types (Kd.R_types (HO354.out) BK345.out (by decide)) BK346.out (by decide)) (fun k_ hk => ⟨hk.1.2, hk.2⟩))))) (Reps.none _ _))); intro v357 w126 ho127 hb hg_ hnew_; clear hg_ hnew_; (first | rw [← Ny356.out] at ho127 | (simp only [Int.reduceToNat] at ho127; rw [← Ny356.out] at ho127)); have n0_ := Aside0.mk (Kd.N_lower ho127 (below_size (hbT HB.out))); have n1_ := Aside0.mk (bbT BK345.out hb); have n2_ := Aside0.mk (bbT BK346.out hb); have n3_ := Aside0.mk (below_step (hbT HB.out) hb); clear BK345; clear BK346; have n9_ := Aside0.mk (Kd.R_below HO354.out hb); clear HB; clear HO354; have HO354 := n9_; clear n9_; have HO358 := n0_; have BK345 := n1_; have BK346 := n2_; have HB := n3_; clear n0_ n1_ n2_ n3_; clear hb ho127; obtain ⟨Ao128, co128, eo128⟩ := Kd.N_slice HO358.out; subst eo128) | ((with_reducible refine gate_callee (f := 18) rfl ?_); refine goesT (some 96) Tryz.func18 #[.slice Ao128 y356.length co128] ?_; (with_reducible refine (csv_Join.calls _ _ y356 t359 t360 _ ?side1 ?side2 ?side3 A56.out).mono ?_); (case side1 => repeat (first | exact (Kd.N_reads' HO358.out).2.2 | (with_reducible refine Kd.C_alloc ?_ _) | (with_reducible refine Kd.C_drewN ?_ _) | (with_reducible refine Kd.C_drew ?_))); (case side2 => exact (Kd.N_reads' HO358.out).2.1); (case side3 => first | (with_reducible exact HL_LMax) | exact ⟨LMax.below HL_LMax.out (hbT HB.out)⟩); rintro e w129 ⟨rfl, hb⟩; refine ⟨_, rfl, ?_⟩; replace HO358 := Aside0.mk (Kd.N_below (by (with_reducible repeat (first | apply Kd.N_alloc | apply Kd.N_drewN | apply Kd.N_drew)); exact HO358.out) hb); replace BK345 := bbA BK345 hb; replace BK346 := bbA BK346 hb; replace HB := bsA HB hb; (try replace HO354 := Aside0.mk (Kd.R_below HO354.out hb)); (try clear hb); (try clear hb2); (try clear hk); (try clear hi)))
                      go_ret
                      exact ⟨by first | rfl | (simp [errW_none, errW_some] <;> rfl) | (simp [*, errW_none, errW_some] <;> rfl), hbT HB.out⟩
                · replace c55 := Bool.eq_false_iff.mpr c55
                  subst c55
                  have H1 : (refrainlaw4_CsvCarries.j4 kj24 l2 a0_0 l0_1) = some r := by rw [if_neg (show ¬ (false = true) by decide)] at H; exact H
                  clear H
                  have H := H1
                  clear H1
                  have H' := Aside0.mk H
                  clear H
                  go_wp2
                  go_meet
                  case rel => exact ⟨_, H', ⟨by have := HJ5.out; have := HJ24.out; first | omega | exact Nat.le_refl _⟩, ⟨bkT BK345.out⟩, ⟨bkT BK346.out⟩, ⟨hbT HB.out⟩⟩
              case rest =>
                clear HC50
                try clear c1
                try clear p2
                try clear c3
                try clear p3
                try clear q3
                try clear hx3
                try clear qi3
                try clear c5
                try clear c7
                try clear c10
                try clear c11
                try clear c12
                try clear c18
                try clear c36
                try clear p36
                try clear q36
                try clear hx36
                try clear qi36
                try clear c55
                try clear c57
                try clear c57b0
                try clear c57b1
                try clear c73
                try clear c75
                try clear c75b0
                try clear c75b1
                try clear c102
                try clear c103
                try clear c105
                try clear c117
                try clear c117b0
                try clear c117b1
                try clear c123
                try clear hcz104_0 hcz104_1 hcz104_2
                try clear hcz106_0 hcz106_1 hcz106_2
                try clear hcz124_0 hcz124_1 hcz124_2
                try clear hfz104_0 hfz104_1 hfz104_2
                try clear hfz106_0 hfz106_1 hfz106_2
                try clear hfz124_0 hfz124_1 hfz124_2
                try clear hx368_0
                try clear p368
                try clear q368
                obtain ⟨kq, HA, HJ49, BK345, BK346, HB⟩ := hcut
                cases kq with
                | zero => (have HA2 := HA.out; clear HA; revert HA2; rw [refrainlaw4_CsvCarries.j4_zero]; intro h_; cases h_)
                | succ kj49 =>
                  have H := HA.out
                  clear HA
                  simp only [refrainlaw4_CsvCarries.j4] at H
                  replace H := Option.bind_eq_some_iff.mp H
                  obtain ⟨⟨t377, t378, t379, t382⟩, A1300, H⟩ := H
                  replace H : (if t382 = 0 then ((csv_Row.f a0_0 l0_1 t377 t378 t379).bind fun bt384 => (if bt384.2 = 0 then ((refrainlaw4_sameRow.f kj49 bt384.1 l2).bind fun t388 => (some t388)) else (some false))) else (some true)) = some r := H
                  have A130 := Aside0.mk A1300
                  clear A1300
                  by_cases c131 : t382 = 0
                  · rw [if_pos c131] at H
                    have c131b0 : (t382 == 0) = true := beq_iff_eq.mpr c131
                    have c131b1 : (t382 != 0) = false := bne_eq_false_iff_eq.mpr c131
                    clear c131
                    replace H := Option.bind_eq_some_iff.mp H
                    obtain ⟨⟨t384, t387⟩, A1320, H⟩ := H
                    replace H : (if t387 = 0 then ((refrainlaw4_sameRow.f kj49 t384 l2).bind fun t388 => (some t388)) else (some false)) = some r := H
                    have A132 := Aside0.mk A1320
                    clear A1320
                    by_cases c133 : t387 = 0
                    · rw [if_pos c133] at H
                      have c133b0 : (t387 == 0) = true := beq_iff_eq.mpr c133
                      have c133b1 : (t387 != 0) = false := bne_eq_false_iff_eq.mpr c133
                      clear c133
                      replace H := Option.bind_eq_some_iff.mp H
                      obtain ⟨t388, A1340, H⟩ := H
                      replace H : (some t388) = some r := H
                      have A134 := Aside0.mk A1340
                      clear A1340
                      obtain rfl := Option.some.inj H
                      have hnb135 := NB345_346.out; have hnc135 := NB346_345.out; have hcz136_0 : wc.cell? ⟨gb345, 0, none⟩ = some (.string a0_0) := (blk_cell BK345.out 0).trans rfl; have hcz136_1 : wc.cell? ⟨gb345, 1, none⟩ = some (.slice A0_1 l0_1.length c0_1) := (blk_cell BK345.out 1).trans rfl; have hfz136_0 := blk_frozen BK345.out 0; have hfz136_1 := blk_frozen BK345.out 1
                      go_wp2_with (first | ((with_reducible refine gate_callee (f := 10) rfl ?_); refine goesT (some 149) Tryz.func10 #[.agg #[.string a0_0, .slice A0_1 l0_1.length c0_1], .slice A2 l2.length c2] ?_; (with_reducible refine (csv_Event.calls a0_0 _ _ l0_1 _ _ l2 t377 t378 t379 t382 _ ?side1 ?side2 ?side3 ?side4 ?side5 ?side6 ?side7 A130.out).mono ?_); (case side1 => repeat (first | exact (Kd.C_below HR0_1.out HB.out) | (with_reducible refine Kd.C_alloc ?_ _) | (with_reducible refine Kd.C_drewN ?_ _) | (with_reducible refine Kd.C_drew ?_))); (case side2 => exact HC0_1.out); (case side3 => repeat (first | exact (Kd.C_below HR2.out HB.out) | (with_reducible refine Kd.C_alloc ?_ _) | (with_reducible refine Kd.C_drewN ?_ _) | (with_reducible refine Kd.C_drew ?_))); (case side4 => exact HC2.out); (case side5 => first | (with_reducible exact HL_LErr) | exact ⟨LErr.below HL_LErr.out (hbT HB.out)⟩); (case side6 => first | (with_reducible exact HL_LG0) | exact ⟨LG0.below HL_LG0.out (hbT HB.out)⟩); (case side7 => first | (with_reducible exact HL_LSyn) | exact ⟨LSyn.below HL_LSyn.out (hbT HB.out)⟩); rintro e w137 ⟨v380, rfl, ho0, hb⟩; refine ⟨_, rfl, ?_⟩; have HO381 := Aside0.mk (Kd.R_lower ho0 (below_size (hbT HB.out))); replace BK345 := bbA BK345 hb; replace BK346 := bbA BK346 hb; replace HB := bsA HB hb; (try clear hb); (try clear hb2); (try clear hk); (try clear hi); (try clear ho0)) | ((with_reducible refine gate_dst (N := 20) rfl ?_); (try (refine gate_guard (by rfl) ?_; dsimp only)); refine box_event ?hg (N := 20) ?hd (cs := #[.string (⟨#[]⟩ : ByteArray), .int .i64 0, .slice none 0 0]) (t := 35) ?hr ?_; (case hd => rfl); (case hg => rfl); (case hr => first | (go_simp; done) | (go_simp; rfl)); intro gb383 hg w138 hbox hb; have BK383 := Aside0.mk hbox; have GW383 := geA hg HB; have GE383 := geA hg HB; have NB345_383 := neA hg BK345; have NB383_345 := neB hg BK345; have NB346_383 := neA hg BK346; have NB383_346 := neB hg BK346; replace HO381 := Aside0.mk (Kd.R_below (by (with_reducible repeat (first | apply Kd.R_alloc | apply Kd.R_drewN | apply Kd.R_drew)); exact HO381.out) hb); replace BK345 := bbA BK345 hb; replace BK346 := bbA BK346 hb; replace HB := bsA HB hb; clear hb hbox hg; have hnb139 := NB383_345.out; have hnc139 := NB345_383.out; have hnb140 := NB383_346.out; have hnc140 := NB346_383.out; have hcz141_0 : w138.cell? ⟨gb383, 0, none⟩ = some (.string (⟨#[]⟩ : ByteArray)) := (blk_cell BK383.out 0).trans rfl; have hcz141_1 : w138.cell? ⟨gb383, 1, none⟩ = some (.int .i64 0) := (blk_cell BK383.out 1).trans rfl; have hcz141_2 : w138.cell? ⟨gb383, 2, none⟩ = some (.slice none 0 0) := (blk_cell BK383.out 2).trans rfl; have hfz141_0 := blk_frozen BK383.out 0; have hfz141_1 := blk_frozen BK383.out 1; have hfz141_2 := blk_frozen BK383.out 2; obtain ⟨Ao142, co142, eo142⟩ := Kd.R_slice HO381.out; subst eo142; have hcz143_0 : w138.cell? ⟨gb345, 0, none⟩ = some (.string a0_0) := (blk_cell BK345.out 0).trans rfl; have hcz143_1 : w138.cell? ⟨gb345, 1, none⟩ = some (.slice A0_1 l0_1.length c0_1) := (blk_cell BK345.out 1).trans rfl; have hfz143_0 := blk_frozen BK345.out 0; have hfz143_1 := blk_frozen BK345.out 1) | ((with_reducible refine gate_callee (f := 14) rfl ?_); refine goesT (some 157) Tryz.func14 #[.agg #[.string a0_0, .slice A0_1 l0_1.length c0_1], .agg #[.string t377, .int .i64 t378, .slice Ao142 t379.length co142]] ?_; (with_reducible refine (csv_Row.calls a0_0 _ _ l0_1 t377 t378 _ _ t379 t384 t387 _ ?side1 ?side2 ?side3 ?side4 ?side5 A132.out).mono ?_); (case side1 => exact Kd.C_below HR0_1.out (hbT HB.out)); (case side2 => exact HC0_1.out); (case side3 => refine (Kd.R_reads' (e := 43) (base := w.heap.size) (ok := fun k_ => True) (n := t379.length) (c := co142) ?_).2.2; exact (by (with_reducible repeat (first | apply Kd.R_alloc | apply Kd.R_drewN | apply Kd.R_drew)); exact (Kd.R_mono (Kd.R_far (p := ⟨gb383, 2, none⟩) (Kd.R_far (p := ⟨gb383, 1, none⟩) (Kd.R_far (p := ⟨gb383, 0, none⟩) (Kd.R_types HO381.out BK383.out (by decide)) (fun _ hk => hk.2) (.string t377)) (fun _ hk => hk.2) (.int .i64 t378)) (fun _ hk => hk.2) (.slice Ao142 t379.length co142)) (fun _ h_ => h_.1)))); (case side4 => exact (Kd.R_reads' HO381.out).2.1); (case side5 => first | (with_reducible exact HL_LG0) | exact ⟨LG0.below HL_LG0.out (hbT HB.out)⟩); rintro e w144 ⟨v385, rfl, ho0, hb⟩; refine ⟨_, rfl, ?_⟩; have HO386 := Aside0.mk (Kd.R_lower ho0 (below_size (hbT HB.out))); replace HO381 := Aside0.mk (Kd.R_below (by (with_reducible repeat (first | apply Kd.R_alloc | apply Kd.R_drewN | apply Kd.R_drew)); exact (Kd.R_mono (Kd.R_far (p := ⟨gb383, 2, none⟩) (Kd.R_far (p := ⟨gb383, 1, none⟩) (Kd.R_far (p := ⟨gb383, 0, none⟩) (Kd.R_types HO381.out BK383.out (by decide)) (fun _ hk => hk.2) (.string t377)) (fun _ hk => hk.2) (.int .i64 t378)) (fun _ hk => hk.2) (.slice Ao142 t379.length co142)) (fun _ h_ => h_.1))) hb); replace BK345 := Aside0.mk (blk_below (g := gb345) (o := .cells #[.string a0_0, .slice A0_1 l0_1.length c0_1] 24 (0, 0)) (bfT NB345_383.out BK345.out) hb); replace BK346 := Aside0.mk (blk_below (g := gb346) (o := .cells #[.string a1_0, .int .i64 a1_1, .slice A1_2 l1_2.length c1_2] 35 (0, 0)) (bfT NB346_383.out BK346.out) hb); replace HB := bsA HB hb; replace BK383 := Aside0.mk (blk_below (g := gb383) (o := .cells #[.string t377, .int .i64 t378, .slice Ao142 t379.length co142] 35 (0, 0)) (by (with_reducible repeat (first | refine blk_drewN ?_ _ | refine blk_drew ?_ | refine blk_alloc ?_ _)); refine blk_put (cs := #[.string t377, .int .i64 t378, .slice none 0 0]) ?_ 2 _ rfl; (with_reducible repeat (first | refine blk_drewN ?_ _ | refine blk_drew ?_ | refine blk_alloc ?_ _)); refine blk_put (cs := #[.string t377, .int .i64 0, .slice none 0 0]) ?_ 1 _ rfl; (with_reducible repeat (first | refine blk_drewN ?_ _ | refine blk_drew ?_ | refine blk_alloc ?_ _)); refine blk_put (cs := #[.string (⟨#[]⟩ : ByteArray), .int .i64 0, .slice none 0 0]) ?_ 0 _ rfl; (with_reducible repeat (first | refine blk_drewN ?_ _ | refine blk_drew ?_ | refine blk_alloc ?_ _)); exact BK383.out) hb); (try clear hb); (try clear hb2); (try clear hk); (try clear hi); (try clear ho0); obtain ⟨Ao145, co145, eo145⟩ := Kd.R_slice HO386.out; subst eo145) | (go_at_call 16; (with_reducible refine (refrainlaw4_sameRow.calls kj49 _ _ t384 _ _ l2 t388 _ ?side1 ?side2 ?side3 ?side4 A134.out).mono ?_); (case side1 => repeat (first | exact (Kd.R_reads' HO386.out).2.2 | (with_reducible refine Kd.C_alloc ?_ _) | (with_reducible refine Kd.C_drewN ?_ _) | (with_reducible refine Kd.C_drew ?_))); (case side2 => exact (Kd.R_reads' HO386.out).2.1); (case side3 => repeat (first | exact (Kd.C_below HR2.out HB.out) | (with_reducible refine Kd.C_alloc ?_ _) | (with_reducible refine Kd.C_drewN ?_ _) | (with_reducible refine Kd.C_drew ?_))); (case side4 => exact HC2.out); rintro e w' ⟨rfl, ⟨nd, rfl⟩⟩))
                      go_ret
                      exact ⟨by first | rfl | (simp [errW_none, errW_some] <;> rfl) | (simp [*, errW_none, errW_some] <;> rfl), hbT HB.out⟩
                    · rw [if_neg c133] at H
                      have c133b0 : (t387 == 0) = false := beq_eq_false_iff_ne.mpr c133
                      have c133b1 : (t387 != 0) = true := bne_iff_ne.mpr c133
                      obtain rfl := Option.some.inj H
                      have hnb146 := NB345_346.out; have hnc146 := NB346_345.out; have hcz147_0 : wc.cell? ⟨gb345, 0, none⟩ = some (.string a0_0) := (blk_cell BK345.out 0).trans rfl; have hcz147_1 : wc.cell? ⟨gb345, 1, none⟩ = some (.slice A0_1 l0_1.length c0_1) := (blk_cell BK345.out 1).trans rfl; have hfz147_0 := blk_frozen BK345.out 0; have hfz147_1 := blk_frozen BK345.out 1
                      go_wp2_with (first | ((with_reducible refine gate_callee (f := 10) rfl ?_); refine goesT (some 149) Tryz.func10 #[.agg #[.string a0_0, .slice A0_1 l0_1.length c0_1], .slice A2 l2.length c2] ?_; (with_reducible refine (csv_Event.calls a0_0 _ _ l0_1 _ _ l2 t377 t378 t379 t382 _ ?side1 ?side2 ?side3 ?side4 ?side5 ?side6 ?side7 A130.out).mono ?_); (case side1 => repeat (first | exact (Kd.C_below HR0_1.out HB.out) | (with_reducible refine Kd.C_alloc ?_ _) | (with_reducible refine Kd.C_drewN ?_ _) | (with_reducible refine Kd.C_drew ?_))); (case side2 => exact HC0_1.out); (case side3 => repeat (first | exact (Kd.C_below HR2.out HB.out) | (with_reducible refine Kd.C_alloc ?_ _) | (with_reducible refine Kd.C_drewN ?_ _) | (with_reducible refine Kd.C_drew ?_))); (case side4 => exact HC2.out); (case side5 => first | (with_reducible exact HL_LErr) | exact ⟨LErr.below HL_LErr.out (hbT HB.out)⟩); (case side6 => first | (with_reducible exact HL_LG0) | exact ⟨LG0.below HL_LG0.out (hbT HB.out)⟩); (case side7 => first | (with_reducible exact HL_LSyn) | exact ⟨LSyn.below HL_LSyn.out (hbT HB.out)⟩); rintro e w148 ⟨v380, rfl, ho0, hb⟩; refine ⟨_, rfl, ?_⟩; have HO381 := Aside0.mk (Kd.R_lower ho0 (below_size (hbT HB.out))); replace BK345 := bbA BK345 hb; replace BK346 := bbA BK346 hb; replace HB := bsA HB hb; (try clear hb); (try clear hb2); (try clear hk); (try clear hi); (try clear ho0)) | ((with_reducible refine gate_dst (N := 20) rfl ?_); (try (refine gate_guard (by rfl) ?_; dsimp only)); refine box_event ?hg (N := 20) ?hd (cs := #[.string (⟨#[]⟩ : ByteArray), .int .i64 0, .slice none 0 0]) (t := 35) ?hr ?_; (case hd => rfl); (case hg => rfl); (case hr => first | (go_simp; done) | (go_simp; rfl)); intro gb383 hg w149 hbox hb; have BK383 := Aside0.mk hbox; have GW383 := geA hg HB; have GE383 := geA hg HB; have NB345_383 := neA hg BK345; have NB383_345 := neB hg BK345; have NB346_383 := neA hg BK346; have NB383_346 := neB hg BK346; replace HO381 := Aside0.mk (Kd.R_below (by (with_reducible repeat (first | apply Kd.R_alloc | apply Kd.R_drewN | apply Kd.R_drew)); exact HO381.out) hb); replace BK345 := bbA BK345 hb; replace BK346 := bbA BK346 hb; replace HB := bsA HB hb; clear hb hbox hg; have hnb150 := NB383_345.out; have hnc150 := NB345_383.out; have hnb151 := NB383_346.out; have hnc151 := NB346_383.out; have hcz152_0 : w149.cell? ⟨gb383, 0, none⟩ = some (.string (⟨#[]⟩ : ByteArray)) := (blk_cell BK383.out 0).trans rfl; have hcz152_1 : w149.cell? ⟨gb383, 1, none⟩ = some (.int .i64 0) := (blk_cell BK383.out 1).trans rfl; have hcz152_2 : w149.cell? ⟨gb383, 2, none⟩ = some (.slice none 0 0) := (blk_cell BK383.out 2).trans rfl; have hfz152_0 := blk_frozen BK383.out 0; have hfz152_1 := blk_frozen BK383.out 1; have hfz152_2 := blk_frozen BK383.out 2; obtain ⟨Ao153, co153, eo153⟩ := Kd.R_slice HO381.out; subst eo153; have hcz154_0 : w149.cell? ⟨gb345, 0, none⟩ = some (.string a0_0) := (blk_cell BK345.out 0).trans rfl; have hcz154_1 : w149.cell? ⟨gb345, 1, none⟩ = some (.slice A0_1 l0_1.length c0_1) := (blk_cell BK345.out 1).trans rfl; have hfz154_0 := blk_frozen BK345.out 0; have hfz154_1 := blk_frozen BK345.out 1) | ((with_reducible refine gate_callee (f := 14) rfl ?_); refine goesT (some 157) Tryz.func14 #[.agg #[.string a0_0, .slice A0_1 l0_1.length c0_1], .agg #[.string t377, .int .i64 t378, .slice Ao153 t379.length co153]] ?_; (with_reducible refine (csv_Row.calls a0_0 _ _ l0_1 t377 t378 _ _ t379 t384 t387 _ ?side1 ?side2 ?side3 ?side4 ?side5 A132.out).mono ?_); (case side1 => exact Kd.C_below HR0_1.out (hbT HB.out)); (case side2 => exact HC0_1.out); (case side3 => refine (Kd.R_reads' (e := 43) (base := w.heap.size) (ok := fun k_ => True) (n := t379.length) (c := co153) ?_).2.2; exact (by (with_reducible repeat (first | apply Kd.R_alloc | apply Kd.R_drewN | apply Kd.R_drew)); exact (Kd.R_mono (Kd.R_far (p := ⟨gb383, 2, none⟩) (Kd.R_far (p := ⟨gb383, 1, none⟩) (Kd.R_far (p := ⟨gb383, 0, none⟩) (Kd.R_types HO381.out BK383.out (by decide)) (fun _ hk => hk.2) (.string t377)) (fun _ hk => hk.2) (.int .i64 t378)) (fun _ hk => hk.2) (.slice Ao153 t379.length co153)) (fun _ h_ => h_.1)))); (case side4 => exact (Kd.R_reads' HO381.out).2.1); (case side5 => first | (with_reducible exact HL_LG0) | exact ⟨LG0.below HL_LG0.out (hbT HB.out)⟩); rintro e w155 ⟨v385, rfl, ho0, hb⟩; refine ⟨_, rfl, ?_⟩; have HO386 := Aside0.mk (Kd.R_lower ho0 (below_size (hbT HB.out))); replace HO381 := Aside0.mk (Kd.R_below (by (with_reducible repeat (first | apply Kd.R_alloc | apply Kd.R_drewN | apply Kd.R_drew)); exact (Kd.R_mono (Kd.R_far (p := ⟨gb383, 2, none⟩) (Kd.R_far (p := ⟨gb383, 1, none⟩) (Kd.R_far (p := ⟨gb383, 0, none⟩) (Kd.R_types HO381.out BK383.out (by decide)) (fun _ hk => hk.2) (.string t377)) (fun _ hk => hk.2) (.int .i64 t378)) (fun _ hk => hk.2) (.slice Ao153 t379.length co153)) (fun _ h_ => h_.1))) hb); replace BK345 := Aside0.mk (blk_below (g := gb345) (o := .cells #[.string a0_0, .slice A0_1 l0_1.length c0_1] 24 (0, 0)) (bfT NB345_383.out BK345.out) hb); replace BK346 := Aside0.mk (blk_below (g := gb346) (o := .cells #[.string a1_0, .int .i64 a1_1, .slice A1_2 l1_2.length c1_2] 35 (0, 0)) (bfT NB346_383.out BK346.out) hb); replace HB := bsA HB hb; replace BK383 := Aside0.mk (blk_below (g := gb383) (o := .cells #[.string t377, .int .i64 t378, .slice Ao153 t379.length co153] 35 (0, 0)) (by (with_reducible repeat (first | refine blk_drewN ?_ _ | refine blk_drew ?_ | refine blk_alloc ?_ _)); refine blk_put (cs := #[.string t377, .int .i64 t378, .slice none 0 0]) ?_ 2 _ rfl; (with_reducible repeat (first | refine blk_drewN ?_ _ | refine blk_drew ?_ | refine blk_alloc ?_ _)); refine blk_put (cs := #[.string t377, .int .i64 0, .slice none 0 0]) ?_ 1 _ rfl; (with_reducible repeat (first | refine blk_drewN ?_ _ | refine blk_drew ?_ | refine blk_alloc ?_ _)); refine blk_put (cs := #[.string (⟨#[]⟩ : ByteArray), .int .i64 0, .slice none 0 0]) ?_ 0 _ rfl; (with_reducible repeat (first | refine blk_drewN ?_ _ | refine blk_drew ?_ | refine blk_alloc ?_ _)); exact BK383.out) hb); (try clear hb); (try clear hb2); (try clear hk); (try clear hi); (try clear ho0)))
                      go_ret
                      exact ⟨by first | rfl | (simp [errW_none, errW_some] <;> rfl) | (simp [*, errW_none, errW_some] <;> rfl), hbT HB.out⟩
                  · rw [if_neg c131] at H
                    have c131b0 : (t382 == 0) = false := beq_eq_false_iff_ne.mpr c131
                    have c131b1 : (t382 != 0) = true := bne_iff_ne.mpr c131
                    obtain rfl := Option.some.inj H
                    have hnb156 := NB345_346.out; have hnc156 := NB346_345.out; have hcz157_0 : wc.cell? ⟨gb345, 0, none⟩ = some (.string a0_0) := (blk_cell BK345.out 0).trans rfl; have hcz157_1 : wc.cell? ⟨gb345, 1, none⟩ = some (.slice A0_1 l0_1.length c0_1) := (blk_cell BK345.out 1).trans rfl; have hfz157_0 := blk_frozen BK345.out 0; have hfz157_1 := blk_frozen BK345.out 1
                    go_wp2_with (first | ((with_reducible refine gate_callee (f := 10) rfl ?_); refine goesT (some 149) Tryz.func10 #[.agg #[.string a0_0, .slice A0_1 l0_1.length c0_1], .slice A2 l2.length c2] ?_; (with_reducible refine (csv_Event.calls a0_0 _ _ l0_1 _ _ l2 t377 t378 t379 t382 _ ?side1 ?side2 ?side3 ?side4 ?side5 ?side6 ?side7 A130.out).mono ?_); (case side1 => repeat (first | exact (Kd.C_below HR0_1.out HB.out) | (with_reducible refine Kd.C_alloc ?_ _) | (with_reducible refine Kd.C_drewN ?_ _) | (with_reducible refine Kd.C_drew ?_))); (case side2 => exact HC0_1.out); (case side3 => repeat (first | exact (Kd.C_below HR2.out HB.out) | (with_reducible refine Kd.C_alloc ?_ _) | (with_reducible refine Kd.C_drewN ?_ _) | (with_reducible refine Kd.C_drew ?_))); (case side4 => exact HC2.out); (case side5 => first | (with_reducible exact HL_LErr) | exact ⟨LErr.below HL_LErr.out (hbT HB.out)⟩); (case side6 => first | (with_reducible exact HL_LG0) | exact ⟨LG0.below HL_LG0.out (hbT HB.out)⟩); (case side7 => first | (with_reducible exact HL_LSyn) | exact ⟨LSyn.below HL_LSyn.out (hbT HB.out)⟩); rintro e w158 ⟨v380, rfl, ho0, hb⟩; refine ⟨_, rfl, ?_⟩; have HO381 := Aside0.mk (Kd.R_lower ho0 (below_size (hbT HB.out))); replace BK345 := bbA BK345 hb; replace BK346 := bbA BK346 hb; replace HB := bsA HB hb; (try clear hb); (try clear hb2); (try clear hk); (try clear hi); (try clear ho0)) | ((with_reducible refine gate_dst (N := 20) rfl ?_); (try (refine gate_guard (by rfl) ?_; dsimp only)); refine box_event ?hg (N := 20) ?hd (cs := #[.string (⟨#[]⟩ : ByteArray), .int .i64 0, .slice none 0 0]) (t := 35) ?hr ?_; (case hd => rfl); (case hg => rfl); (case hr => first | (go_simp; done) | (go_simp; rfl)); intro gb383 hg w159 hbox hb; have BK383 := Aside0.mk hbox; have GW383 := geA hg HB; have GE383 := geA hg HB; have NB345_383 := neA hg BK345; have NB383_345 := neB hg BK345; have NB346_383 := neA hg BK346; have NB383_346 := neB hg BK346; replace HO381 := Aside0.mk (Kd.R_below (by (with_reducible repeat (first | apply Kd.R_alloc | apply Kd.R_drewN | apply Kd.R_drew)); exact HO381.out) hb); replace BK345 := bbA BK345 hb; replace BK346 := bbA BK346 hb; replace HB := bsA HB hb; clear hb hbox hg; have hnb160 := NB383_345.out; have hnc160 := NB345_383.out; have hnb161 := NB383_346.out; have hnc161 := NB346_383.out; have hcz162_0 : w159.cell? ⟨gb383, 0, none⟩ = some (.string (⟨#[]⟩ : ByteArray)) := (blk_cell BK383.out 0).trans rfl; have hcz162_1 : w159.cell? ⟨gb383, 1, none⟩ = some (.int .i64 0) := (blk_cell BK383.out 1).trans rfl; have hcz162_2 : w159.cell? ⟨gb383, 2, none⟩ = some (.slice none 0 0) := (blk_cell BK383.out 2).trans rfl; have hfz162_0 := blk_frozen BK383.out 0; have hfz162_1 := blk_frozen BK383.out 1; have hfz162_2 := blk_frozen BK383.out 2; obtain ⟨Ao163, co163, eo163⟩ := Kd.R_slice HO381.out; subst eo163))
                    go_ret
                    exact ⟨by first | rfl | (simp [errW_none, errW_some] <;> rfl) | (simp [*, errW_none, errW_some] <;> rfl), hbT HB.out⟩
  · replace c5 := Bool.eq_false_iff.mpr c5
    subst c5
    have H1 : (some false) = some r := by rw [if_neg (show ¬ (false = true) by decide)] at H; exact H
    clear H
    have H := H1
    clear H1
    obtain rfl := Option.some.inj H
    go_enter Tryz.func4, Tryz.ntmps4
    go_wp2_with (first | ((with_reducible refine gate_dst (N := 3) rfl ?_); (try (refine gate_guard (by rfl) ?_; dsimp only)); refine box_event ?hg (N := 3) ?hd (cs := #[.string a0_0, .slice A0_1 l0_1.length c0_1]) (t := 24) ?hr ?_; (case hd => rfl); (case hg => rfl); (case hr => first | (go_simp; done) | (go_simp; rfl)); intro gb345 hg w164 hbox hb; have BK345 := Aside0.mk hbox; have GW345 := geA hg HB; have GE345 := geA hg HB; replace HB := bsA HB hb; clear hb hbox hg) | ((with_reducible refine gate_dst (N := 4) rfl ?_); (try (refine gate_guard (by rfl) ?_; dsimp only)); refine box_event ?hg (N := 4) ?hd (cs := #[.string a1_0, .int .i64 a1_1, .slice A1_2 l1_2.length c1_2]) (t := 35) ?hr ?_; (case hd => rfl); (case hg => rfl); (case hr => first | (go_simp; done) | (go_simp; rfl)); intro gb346 hg w165 hbox hb; have BK346 := Aside0.mk hbox; have GW346 := geA hg HB; have GE346 := geA hg HB; have NB345_346 := neA hg BK345; have NB346_345 := neB hg BK345; replace BK345 := bbA BK345 hb; replace HB := bsA HB hb; clear hb hbox hg) | ((with_reducible refine gate_callee (f := 7) rfl ?_); refine goesT (some 23) Tryz.func7 #[] ?_; (with_reducible refine (refrainlaw4_begun.calls  false _ ?side1 A4.out).mono ?_); (case side1 => first | (with_reducible exact HL_LMax) | exact ⟨LMax.below HL_LMax.out (hbT HB.out)⟩); rintro e w166 ⟨rfl, hb⟩; refine ⟨_, rfl, ?_⟩; replace BK345 := bbA BK345 hb; replace BK346 := bbA BK346 hb; replace HB := bsA HB hb; (try clear hb); (try clear hb2); (try clear hk); (try clear hi)))
    go_ret
    exact ⟨by first | rfl | (simp [errW_none, errW_some] <;> rfl) | (simp [*, errW_none, errW_some] <;> rfl), hbT HB.out⟩

end Go.Proofs.YtpkbhfdfgapmlaaGreatDoor.Pr
end

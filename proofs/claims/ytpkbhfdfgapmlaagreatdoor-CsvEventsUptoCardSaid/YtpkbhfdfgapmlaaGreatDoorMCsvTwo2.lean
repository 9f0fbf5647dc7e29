/-
Part 2 of the proof of the law CsvTwo: texts Prx2, Prx13, PuBase, Prx4, ExtErr, ShV, ExtPU, Prx5, Prx3.
-/
import Derived.BigCall
import Derived.BigGuard
import Derived.Ground.MpProg
import Derived.IntWalk
import Derived.Laws.Strings3
import Derived.Lib.AtoiErrMem
import Derived.Lib.ConvBytes
import Derived.Lib.Hide
import Derived.Lib.Strings
import Derived.Lib.Walk
import Derived.Shelf.LaysC
import Derived.Shelf.LaysM
import Derived.Shelf.Pu.ErrVarParseUint
import Derived.Shelf.Pu.ParseUintPublic10
import Derived.Shelf.Small.Strs
import Derived.Shelf.Small.Utf8
import Derived.Shelf.Small.Wraps
import Derived.Shelf.Strconv.Clone
import Derived.Shelf.Strconv.ErrVarParseInt
import Derived.Shelf.Strconv.Itoa0
import Derived.Shelf.Strconv.Itoa1
import Derived.Shelf.Strconv.Itoa2
import Derived.Shelf.Strconv.Itoa3
import Derived.Shelf.Strconv.Itoa4
import Derived.Shelf.Strconv.Lower
import Derived.Shelf.Strconv.ParseInt10
import Derived.Shelf.Strconv.ParseInt10All
import Derived.Shelf.Strconv.ParseInt10At16
import Derived.Shelf.Strconv.ParseInt10At32
import Derived.Shelf.Strconv.ParseInt10At64
import Derived.Shelf.Strconv.ParseInt10At8
import Derived.Shelf.Strconv.ParseIntEmpty
import Derived.Shelf.Strconv.ParseIntPublic10
import Derived.Shelf.Strconv.ParseUint10
import Derived.Shelf.Strconv.ParseUint10Any
import Derived.Shelf.Strconv.ParseUint10At
import Derived.Shelf.Strconv.ParseUint10Empty
import Derived.Shelf.Strconv.ParseUint10b16
import Derived.Shelf.Strconv.ParseUint10b32
import Derived.Shelf.Strconv.ParseUint10b64
import Derived.Shelf.Strconv.ParseUint10b8
import Derived.Shelf.Strconv.ParseUintEmpty
import Derived.Shelf.Strconv.RangeError
import Derived.Shelf.Strconv.SyntaxError
import Derived.Shelf.Strconv.ToError
import Derived.Shelf.Strconv.ToErrorRange
import Derived.Shelf.Strings.AsciiSet
import Derived.Shelf.Strings.Builder1
import Derived.Shelf.Strings.Builder2
import Derived.Shelf.Strings.BuilderF
import Derived.Shelf.Strings.BuilderK
import Derived.Shelf.Strings.Count
import Derived.Shelf.Strings.IndexAny
import Derived.Shelf.Strings.IndexAnyAll
import Derived.Shelf.Strings.OnBuilder
import Derived.Shelf.Strings.Prefix
import Derived.Shelf.Strings.Replace
import Derived.Shelf.Strings.RuneCount
import Derived.Shelf.Strings.Runes
import Derived.Shelf.Strings.Search1
import Derived.Shelf.Strings.Search2
import Derived.Shelf.Strings.Search3
import Derived.Shelf.Strings.Shaped
import Derived.Shelf.Strings.Split
import Derived.Shelf.Strings.SplitShaped
import Derived.Shelf.Unicode.CaseConvert
import Derived.Shelf.Unicode.CaseLaid
import Derived.Shelf.Unicode.CaseLookup
import Derived.Shelf.Unicode.CaseTo
import Derived.Shelf.Unicode.Decode
import Derived.Shelf.Unicode.DecodeAny
import Derived.Shelf.Unicode.DecodeSlow
import Derived.Shelf.Unicode.Latin
import Derived.Shelf.Utf8.RuneCount
import Derived.Test.YtpkbhfdfgapmlaaGreatDoorMCsvTwo0
import Derived.Test.YtpkbhfdfgapmlaaGreatDoorMCsvTwo1
import Derived.Test.YtpkbhfdfgapmlaaGreatDoorProg
/-! ## text Prx2 -/
section
namespace Go.Proofs.YtpkbhfdfgapmlaaGreatDoor.Pr
open Go.RowKit Go.Proofs.YtpkbhfdfgapmlaaGreatDoorW.PrintWords Go.Proofs.YtpkbhfdfgapmlaaGreatDoorW.PrintLast Go.Proofs.YtpkbhfdfgapmlaaGreatDoorW.PrintMore
attribute [local go_sem] max2_int min2_int max_two min_two max_three min_three max_four min_four   -- for this text's walks alone
attribute [local go_sem high] Go.Proofs.YtpkbhfdfgapmlaaGreatDoor.isSome_setCell
set_option maxRecDepth 100000
set_option linter.unusedVariables false
set_option linter.unusedSimpArgs false

attribute [local go_sem high] eqA43
/-! ### refrainlaw4_begun: function 7 -/
def refrainlaw4_begun.f  : Option (Bool) := (csv_Split.f (⟨#[97, 44, 34, 98, 44, 99, 34, 13, 10]⟩ : ByteArray)).bind fun bt101 => (if bt101.2.2 = 0 then (if bt101.2.1 = 0 then (if (bt101.1.length : Int) = 1 then (if 0 < (bt101.1.length : Int) then (if ((rd_L1 bt101.1 0).length : Int) = 2 then (if 1 < ((rd_L1 bt101.1 0).length : Int) then (if (rdOf ByteArray.empty (rd_L1 bt101.1 0) 1).toList = ([98, 44, 99] : List UInt8) then ((csv_Join.f bt101.1).bind fun bt109 => (if bt109.2 = 0 then (some (bt109.1.toList == ([97, 44, 34, 98, 44, 99, 34, 13, 10] : List UInt8))) else (some false))) else (some false)) else (none)) else (some false)) else (none)) else (some false)) else (some false)) else (some false))
set_option maxHeartbeats 8000000 in
set_option maxRecDepth 100000 in
theorem refrainlaw4_begun.calls  (r : Bool) (w : World) (HL_LMax : Aside0 (LMax w)) (h : refrainlaw4_begun.f  = some r) :
    Calls Tryz.prog 7 #[] w fun e w' => e = .returned (.bool r) ∧ Below w.heap.size w w' := by
  have HB := Aside0.mk (Below.refl w.heap.size w)
  have H : ((csv_Split.f (⟨#[97, 44, 34, 98, 44, 99, 34, 13, 10]⟩ : ByteArray)).bind fun bt101 => (if bt101.2.2 = 0 then (if bt101.2.1 = 0 then (if (bt101.1.length : Int) = 1 then (if 0 < (bt101.1.length : Int) then (if ((rd_L1 bt101.1 0).length : Int) = 2 then (if 1 < ((rd_L1 bt101.1 0).length : Int) then (if (rdOf ByteArray.empty (rd_L1 bt101.1 0) 1).toList = ([98, 44, 99] : List UInt8) then ((csv_Join.f bt101.1).bind fun bt109 => (if bt109.2 = 0 then (some (bt109.1.toList == ([97, 44, 34, 98, 44, 99, 34, 13, 10] : List UInt8))) else (some false))) else (some false)) else (none)) else (some false)) else (none)) else (some false)) else (some false)) else (some false))) = some r := h
  clear h
  replace H := Option.bind_eq_some_iff.mp H
  obtain ⟨⟨t101, t102, t103⟩, A10, H⟩ := H
  replace H : (if t103 = 0 then (if t102 = 0 then (if (t101.length : Int) = 1 then (if 0 < (t101.length : Int) then (if ((rd_L1 t101 0).length : Int) = 2 then (if 1 < ((rd_L1 t101 0).length : Int) then (if (rdOf ByteArray.empty (rd_L1 t101 0) 1).toList = ([98, 44, 99] : List UInt8) then ((csv_Join.f t101).bind fun bt109 => (if bt109.2 = 0 then (some (bt109.1.toList == ([97, 44, 34, 98, 44, 99, 34, 13, 10] : List UInt8))) else (some false))) else (some false)) else (none)) else (some false)) else (none)) else (some false)) else (some false)) else (some false)) = some r := H
  have A1 := Aside0.mk A10
  clear A10
  by_cases c2 : t103 = 0
  · rw [if_pos c2] at H
    have c2b0 : (t103 == 0) = true := beq_iff_eq.mpr c2
    have c2b1 : (t103 != 0) = false := bne_eq_false_iff_eq.mpr c2
    clear c2
    by_cases c3 : t102 = 0
    · rw [if_pos c3] at H
      have c3b0 : (t102 == 0) = true := beq_iff_eq.mpr c3
      have c3b1 : (t102 != 0) = false := bne_eq_false_iff_eq.mpr c3
      clear c3
      by_cases c4 : (t101.length : Int) = 1
      · rw [if_pos c4] at H
        have c4b0 : ((t101.length : Int) == 1) = true := beq_iff_eq.mpr c4
        have c4b1 : ((t101.length : Int) != 1) = false := bne_eq_false_iff_eq.mpr c4
        clear c4
        by_cases c5 : 0 < (t101.length : Int)
        · rw [if_pos c5] at H
          have c5b0 : decide (0 < (t101.length : Int)) = true := decide_eq_true c5
          have c5b1 : decide (0 < t101.length) = true := decide_eq_true (by omega)
          clear c5
          by_cases c6 : ((rd_L1 t101 0).length : Int) = 2
          · rw [if_pos c6] at H
            have c6b0 : (((rd_L1 t101 0).length : Int) == 2) = true := beq_iff_eq.mpr c6
            have c6b1 : (((rd_L1 t101 0).length : Int) != 2) = false := bne_eq_false_iff_eq.mpr c6
            clear c6
            by_cases c7 : 1 < ((rd_L1 t101 0).length : Int)
            · rw [if_pos c7] at H
              have c7b0 : decide (1 < ((rd_L1 t101 0).length : Int)) = true := decide_eq_true c7
              have c7b1 : decide (1 < (rd_L1 t101 0).length) = true := decide_eq_true (by omega)
              clear c7
              by_cases c8 : (rdOf ByteArray.empty (rd_L1 t101 0) 1).toList = ([98, 44, 99] : List UInt8)
              · rw [if_pos c8] at H
                have c8b0 : ((rdOf ByteArray.empty (rd_L1 t101 0) 1).toList == ([98, 44, 99] : List UInt8)) = true := beq_iff_eq.mpr c8
                have c8b1 : ((rdOf ByteArray.empty (rd_L1 t101 0) 1).toList != ([98, 44, 99] : List UInt8)) = false := bne_eq_false_iff_eq.mpr c8
                clear c8
                replace H := Option.bind_eq_some_iff.mp H
                obtain ⟨⟨t109, t110⟩, A90, H⟩ := H
                replace H : (if t110 = 0 then (some (t109.toList == ([97, 44, 34, 98, 44, 99, 34, 13, 10] : List UInt8))) else (some false)) = some r := H
                have A9 := Aside0.mk A90
                clear A90
                by_cases c10 : t110 = 0
                · rw [if_pos c10] at H
                  have c10b0 : (t110 == 0) = true := beq_iff_eq.mpr c10
                  have c10b1 : (t110 != 0) = false := bne_eq_false_iff_eq.mpr c10
                  clear c10
                  obtain rfl := Option.some.inj H
                  go_enter Tryz.func7, Tryz.ntmps7
                  go_wp2_with (first | ((with_reducible refine gate_callee (f := 19) rfl ?_); refine goesT (some 7) Tryz.func19 #[.string (⟨#[97, 44, 34, 98, 44, 99, 34, 13, 10]⟩ : ByteArray)] ?_; (with_reducible refine (csv_Split.calls (⟨#[97, 44, 34, 98, 44, 99, 34, 13, 10]⟩ : ByteArray) t101 t102 t103 _ A1.out).mono ?_); rintro e w11 ⟨v104, rfl, ho0, hb⟩; refine ⟨_, rfl, ?_⟩; have HO105 := Aside0.mk (Kd.S_lower ho0 (below_size (hbT HB.out))); replace HB := bsA HB hb; (try clear hb); (try clear hb2); (try clear hk); (try clear hi); (try clear ho0); obtain ⟨Ao12, co12, eo12⟩ := Kd.S_slice HO105.out; subst eo12; have p106 : 0 ≤ (0 : Int) := (by omega); have q106 : 0 < (t101.length : Int) := of_decide_eq_true (by first | (with_reducible assumption) | assumption); obtain ⟨ad106, A106_0, c106_0, e106, hx106_0, hl106_0, hi106_0⟩ := at_L1 (Kd.S_reads' HO105.out).2.2 0 p106 q106; cases e106; obtain ⟨ce106, hce106, hMe106, hcc106⟩ := Kd.S_get HO105.out [] 0 p106 (by first | exact q106 | exact of_decide_eq_true (by first | (with_reducible assumption) | assumption) | (have e_ := (Kd.S_reads' HO105.out).1; omega)); obtain ⟨ve106_0, rfl, ge106_0⟩ := hMe106; have hv106_0 := hcc106 0 _ rfl; rw [Nat.add_zero, show ((Kd.slice 9 Kd.string)).sz = 1 from rfl, Nat.mul_one] at hv106_0; replace hv106_0 := Option.some.inj (hv106_0.symm.trans hx106_0); rw [hv106_0] at ge106_0; have HL106_0 := Aside0.mk (show Kd.R Kd.string 9 _ _ _ _ (rd_L1 t101 0) from ge106_0); clear hv106_0 ge106_0; clear hcc106 hce106; have qi106 : (0 < t101.length) = True := eq_true (by omega); (try rw [show ((0 : Int)).toNat = 0 from rfl] at hx106_0); (try rw [Addr.add_zero'] at hx106_0); have HR106_0 := Aside0.mk hi106_0; have HC106_0 := Aside0.mk hl106_0; clear hi106_0 hl106_0; replace p106 := eq_true p106; replace q106 := eq_true q106; have p107 : 0 ≤ (0 : Int) := (by omega); have q107 : 0 < (t101.length : Int) := of_decide_eq_true (by first | (with_reducible assumption) | assumption); obtain ⟨ad107, A107_0, c107_0, e107, hx107_0, hl107_0, hi107_0⟩ := at_L1 (Kd.S_reads' HO105.out).2.2 0 p107 q107; obtain rfl : ad106 = ad107 := (by injection e107); obtain ⟨ce107, hce107, hMe107, hcc107⟩ := Kd.S_get HO105.out [] 0 p107 (by first | exact q107 | exact of_decide_eq_true (by first | (with_reducible assumption) | assumption) | (have e_ := (Kd.S_reads' HO105.out).1; omega)); obtain ⟨ve107_0, rfl, ge107_0⟩ := hMe107; have hv107_0 := hcc107 0 _ rfl; rw [Nat.add_zero, show ((Kd.slice 9 Kd.string)).sz = 1 from rfl, Nat.mul_one] at hv107_0; replace hv107_0 := Option.some.inj (hv107_0.symm.trans hx107_0); rw [hv107_0] at ge107_0; have HL107_0 := Aside0.mk (show Kd.R Kd.string 9 _ _ _ _ (rd_L1 t101 0) from ge107_0); clear hv107_0 ge107_0; clear hcc107 hce107; have qi107 : (0 < t101.length) = True := eq_true (by omega); (try rw [show ((0 : Int)).toNat = 0 from rfl] at hx107_0); (try rw [Addr.add_zero'] at hx107_0); have HR107_0 := Aside0.mk hi107_0; have HC107_0 := Aside0.mk hl107_0; clear hi107_0 hl107_0; replace p107 := eq_true p107; replace q107 := eq_true q107; have ea_ := Option.some.inj (hx106_0.symm.trans hx107_0); injection ea_ with ea_ en_ ec_; subst ea_; subst ec_; clear en_; have p108 : 0 ≤ (1 : Int) := (by omega); have q108 : 1 < ((rd_L1 t101 0).length : Int) := of_decide_eq_true (by first | (with_reducible assumption) | assumption); obtain ⟨ad108, e108, hx108_0⟩ := Kd.at_string (by repeat (first | (with_reducible exact HR107_0.out) | (with_reducible refine Kd.C_alloc ?_ _) | (with_reducible refine Kd.C_drewN ?_ _) | (with_reducible refine Kd.C_drew ?_) | exact HR107_0.out)) 1 p108 q108; cases e108; (try simp only [show (1 : Int).toNat = 1 from rfl, Nat.reduceMul, Nat.reduceEqDiff, Go.Addr.add, ↓reduceIte] at hx108_0); have qi108 : (1 < (rd_L1 t101 0).length) = True := eq_true (by omega); (try rw [show ((1 : Int)).toNat = 1 from rfl] at hx108_0); replace p108 := eq_true p108; replace q108 := eq_true q108) | ((with_reducible refine gate_callee (f := 18) rfl ?_); refine goesT (some 39) Tryz.func18 #[.slice (some ad106) t101.length co12] ?_; (with_reducible refine (csv_Join.calls _ _ t101 t109 t110 _ ?side1 ?side2 ?side3 A9.out).mono ?_); (case side1 => repeat (first | exact (Kd.S_reads' HO105.out).2.2 | (with_reducible refine Kd.C_alloc ?_ _) | (with_reducible refine Kd.C_drewN ?_ _) | (with_reducible refine Kd.C_drew ?_))); (case side2 => exact (Kd.S_reads' HO105.out).2.1); (case side3 => first | (with_reducible exact HL_LMax) | exact ⟨LMax.below HL_LMax.out (hbT HB.out)⟩); rintro e w13 ⟨rfl, hb⟩; refine ⟨_, rfl, ?_⟩; replace HO105 := Aside0.mk (Kd.S_below (by (with_reducible repeat (first | apply Kd.S_alloc | apply Kd.S_drewN | apply Kd.S_drew)); exact HO105.out) hb); replace HL106_0 := Aside0.mk (Kd.R_below (by (with_reducible repeat (first | apply Kd.R_alloc | apply Kd.R_drewN | apply Kd.R_drew)); exact HL106_0.out) hb); replace HL107_0 := Aside0.mk (Kd.R_below (by (with_reducible repeat (first | apply Kd.R_alloc | apply Kd.R_drewN | apply Kd.R_drew)); exact HL107_0.out) hb); replace HR106_0 := Aside0.mk (Kd.C_below (by repeat (first | (with_reducible exact HR106_0.out) | (with_reducible refine Kd.C_alloc ?_ _) | (with_reducible refine Kd.C_drewN ?_ _) | (with_reducible refine Kd.C_drew ?_) | exact HR106_0.out)) hb); replace HR107_0 := Aside0.mk (Kd.C_below (by repeat (first | (with_reducible exact HR107_0.out) | (with_reducible refine Kd.C_alloc ?_ _) | (with_reducible refine Kd.C_drewN ?_ _) | (with_reducible refine Kd.C_drew ?_) | exact HR107_0.out)) hb); replace HB := bsA HB hb; (try clear hb); (try clear hb2); (try clear hk); (try clear hi)))
                  go_ret
                  exact ⟨by first | rfl | (simp [errW_none, errW_some] <;> rfl) | (simp [*, errW_none, errW_some] <;> rfl), hbT HB.out⟩
                · rw [if_neg c10] at H
                  have c10b0 : (t110 == 0) = false := beq_eq_false_iff_ne.mpr c10
                  have c10b1 : (t110 != 0) = true := bne_iff_ne.mpr c10
                  obtain rfl := Option.some.inj H
                  go_enter Tryz.func7, Tryz.ntmps7
                  go_wp2_with (first | ((with_reducible refine gate_callee (f := 19) rfl ?_); refine goesT (some 7) Tryz.func19 #[.string (⟨#[97, 44, 34, 98, 44, 99, 34, 13, 10]⟩ : ByteArray)] ?_; (with_reducible refine (csv_Split.calls (⟨#[97, 44, 34, 98, 44, 99, 34, 13, 10]⟩ : ByteArray) t101 t102 t103 _ A1.out).mono ?_); rintro e w14 ⟨v104, rfl, ho0, hb⟩; refine ⟨_, rfl, ?_⟩; have HO105 := Aside0.mk (Kd.S_lower ho0 (below_size (hbT HB.out))); replace HB := bsA HB hb; (try clear hb); (try clear hb2); (try clear hk); (try clear hi); (try clear ho0); obtain ⟨Ao15, co15, eo15⟩ := Kd.S_slice HO105.out; subst eo15; have p106 : 0 ≤ (0 : Int) := (by omega); have q106 : 0 < (t101.length : Int) := of_decide_eq_true (by first | (with_reducible assumption) | assumption); obtain ⟨ad106, A106_0, c106_0, e106, hx106_0, hl106_0, hi106_0⟩ := at_L1 (Kd.S_reads' HO105.out).2.2 0 p106 q106; cases e106; obtain ⟨ce106, hce106, hMe106, hcc106⟩ := Kd.S_get HO105.out [] 0 p106 (by first | exact q106 | exact of_decide_eq_true (by first | (with_reducible assumption) | assumption) | (have e_ := (Kd.S_reads' HO105.out).1; omega)); obtain ⟨ve106_0, rfl, ge106_0⟩ := hMe106; have hv106_0 := hcc106 0 _ rfl; rw [Nat.add_zero, show ((Kd.slice 9 Kd.string)).sz = 1 from rfl, Nat.mul_one] at hv106_0; replace hv106_0 := Option.some.inj (hv106_0.symm.trans hx106_0); rw [hv106_0] at ge106_0; have HL106_0 := Aside0.mk (show Kd.R Kd.string 9 _ _ _ _ (rd_L1 t101 0) from ge106_0); clear hv106_0 ge106_0; clear hcc106 hce106; have qi106 : (0 < t101.length) = True := eq_true (by omega); (try rw [show ((0 : Int)).toNat = 0 from rfl] at hx106_0); (try rw [Addr.add_zero'] at hx106_0); have HR106_0 := Aside0.mk hi106_0; have HC106_0 := Aside0.mk hl106_0; clear hi106_0 hl106_0; replace p106 := eq_true p106; replace q106 := eq_true q106; have p107 : 0 ≤ (0 : Int) := (by omega); have q107 : 0 < (t101.length : Int) := of_decide_eq_true (by first | (with_reducible assumption) | assumption); obtain ⟨ad107, A107_0, c107_0, e107, hx107_0, hl107_0, hi107_0⟩ := at_L1 (Kd.S_reads' HO105.out).2.2 0 p107 q107; obtain rfl : ad106 = ad107 := (by injection e107); obtain ⟨ce107, hce107, hMe107, hcc107⟩ := Kd.S_get HO105.out [] 0 p107 (by first | exact q107 | exact of_decide_eq_true (by first | (with_reducible assumption) | assumption) | (have e_ := (Kd.S_reads' HO105.out).1; omega)); obtain ⟨ve107_0, rfl, ge107_0⟩ := hMe107; have hv107_0 := hcc107 0 _ rfl; rw [Nat.add_zero, show ((Kd.slice 9 Kd.string)).sz = 1 from rfl, Nat.mul_one] at hv107_0; replace hv107_0 := Option.some.inj (hv107_0.symm.trans hx107_0); rw [hv107_0] at ge107_0; have HL107_0 := Aside0.mk (show Kd.R Kd.string 9 _ _ _ _ (rd_L1 t101 0) from ge107_0); clear hv107_0 ge107_0; clear hcc107 hce107; have qi107 : (0 < t101.length) = True := eq_true (by omega); (try rw [show ((0 : Int)).toNat = 0 from rfl] at hx107_0); (try rw [Addr.add_zero'] at hx107_0); have HR107_0 := Aside0.mk hi107_0; have HC107_0 := Aside0.mk hl107_0; clear hi107_0 hl107_0; replace p107 := eq_true p107; replace q107 := eq_true q107; have ea_ := Option.some.inj (hx106_0.symm.trans hx107_0); injection ea_ with ea_ en_ ec_; subst ea_; subst ec_; clear en_; have p108 : 0 ≤ (1 : Int) := (by omega); have q108 : 1 < ((rd_L1 t101 0).length : Int) := of_decide_eq_true (by first | (with_reducible assumption) | assumption); obtain ⟨ad108, e108, hx108_0⟩ := Kd.at_string (by repeat (first | (with_reducible exact HR107_0.out) | (with_reducible refine Kd.C_alloc ?_ _) | (with_reducible refine Kd.C_drewN ?_ _) | (with_reducible refine Kd.C_drew ?_) | exact HR107_0.out)) 1 p108 q108; cases e108; (try simp only [show (1 : Int).toNat = 1 from rfl, Nat.reduceMul, Nat.reduceEqDiff, Go.Addr.add, ↓reduceIte] at hx108_0); have qi108 : (1 < (rd_L1 t101 0).length) = True := eq_true (by omega); (try rw [show ((1 : Int)).toNat = 1 from rfl] at hx108_0); replace p108 := eq_true p108; replace q108 := eq_true q108) | ((with_reducible refine gate_callee (f := 18) rfl ?_); refine goesT (some 39) Tryz.func18 #[.slice (some ad106) t101.length co15] ?_; (with_reducible refine (csv_Join.calls _ _ t101 t109 t110 _ ?side1 ?side2 ?side3 A9.out).mono ?_); (case side1 => repeat (first | exact (Kd.S_reads' HO105.out).2.2 | (with_reducible refine Kd.C_alloc ?_ _) | (with_reducible refine Kd.C_drewN ?_ _) | (with_reducible refine Kd.C_drew ?_))); (case side2 => exact (Kd.S_reads' HO105.out).2.1); (case side3 => first | (with_reducible exact HL_LMax) | exact ⟨LMax.below HL_LMax.out (hbT HB.out)⟩); rintro e w16 ⟨rfl, hb⟩; refine ⟨_, rfl, ?_⟩; replace HO105 := Aside0.mk (Kd.S_below (by (with_reducible repeat (first | apply Kd.S_alloc | apply Kd.S_drewN | apply Kd.S_drew)); exact HO105.out) hb); replace HL106_0 := Aside0.mk (Kd.R_below (by (with_reducible repeat (first | apply Kd.R_alloc | apply Kd.R_drewN | apply Kd.R_drew)); exact HL106_0.out) hb); replace HL107_0 := Aside0.mk (Kd.R_below (by (with_reducible repeat (first | apply Kd.R_alloc | apply Kd.R_drewN | apply Kd.R_drew)); exact HL107_0.out) hb); replace HR106_0 := Aside0.mk (Kd.C_below (by repeat (first | (with_reducible exact HR106_0.out) | (with_reducible refine Kd.C_alloc ?_ _) | (with_reducible refine Kd.C_drewN ?_ _) | (with_reducible refine Kd.C_drew ?_) | exact HR106_0.out)) hb); replace HR107_0 := Aside0.mk (Kd.C_below (by repeat (first | (with_reducible exact HR107_0.out) | (with_reducible refine Kd.C_alloc ?_ _) | (with_reducible refine Kd.C_drewN ?_ _) | (with_reducible refine Kd.C_drew ?_) | exact HR107_0.out)) hb); replace HB := bsA HB hb; (try clear hb); (try clear hb2); (try clear hk); (try clear hi)))
                  go_ret
                  exact ⟨by first | rfl | (simp [errW_none, errW_some] <;> rfl) | (simp [*, errW_none, errW_some] <;> rfl), hbT HB.out⟩
              · rw [if_neg c8] at H
                have c8b0 : ((rdOf ByteArray.empty (rd_L1 t101 0) 1).toList == ([98, 44, 99] : List UInt8)) = false := beq_eq_false_iff_ne.mpr c8
                have c8b1 : ((rdOf ByteArray.empty (rd_L1 t101 0) 1).toList != ([98, 44, 99] : List UInt8)) = true := bne_iff_ne.mpr c8
                obtain rfl := Option.some.inj H
                go_enter Tryz.func7, Tryz.ntmps7
                go_wp2_with (first | ((with_reducible refine gate_callee (f := 19) rfl ?_); refine goesT (some 7) Tryz.func19 #[.string (⟨#[97, 44, 34, 98, 44, 99, 34, 13, 10]⟩ : ByteArray)] ?_; (with_reducible refine (csv_Split.calls (⟨#[97, 44, 34, 98, 44, 99, 34, 13, 10]⟩ : ByteArray) t101 t102 t103 _ A1.out).mono ?_); rintro e w17 ⟨v104, rfl, ho0, hb⟩; refine ⟨_, rfl, ?_⟩; have HO105 := Aside0.mk (Kd.S_lower ho0 (below_size (hbT HB.out))); replace HB := bsA HB hb; (try clear hb); (try clear hb2); (try clear hk); (try clear hi); (try clear ho0); obtain ⟨Ao18, co18, eo18⟩ := Kd.S_slice HO105.out; subst eo18; have p106 : 0 ≤ (0 : Int) := (by omega); have q106 : 0 < (t101.length : Int) := of_decide_eq_true (by first | (with_reducible assumption) | assumption); obtain ⟨ad106, A106_0, c106_0, e106, hx106_0, hl106_0, hi106_0⟩ := at_L1 (Kd.S_reads' HO105.out).2.2 0 p106 q106; cases e106; obtain ⟨ce106, hce106, hMe106, hcc106⟩ := Kd.S_get HO105.out [] 0 p106 (by first | exact q106 | exact of_decide_eq_true (by first | (with_reducible assumption) | assumption) | (have e_ := (Kd.S_reads' HO105.out).1; omega)); obtain ⟨ve106_0, rfl, ge106_0⟩ := hMe106; have hv106_0 := hcc106 0 _ rfl; rw [Nat.add_zero, show ((Kd.slice 9 Kd.string)).sz = 1 from rfl, Nat.mul_one] at hv106_0; replace hv106_0 := Option.some.inj (hv106_0.symm.trans hx106_0); rw [hv106_0] at ge106_0; have HL106_0 := Aside0.mk (show Kd.R Kd.string 9 _ _ _ _ (rd_L1 t101 0) from ge106_0); clear hv106_0 ge106_0; clear hcc106 hce106; have qi106 : (0 < t101.length) = True := eq_true (by omega); (try rw [show ((0 : Int)).toNat = 0 from rfl] at hx106_0); (try rw [Addr.add_zero'] at hx106_0); have HR106_0 := Aside0.mk hi106_0; have HC106_0 := Aside0.mk hl106_0; clear hi106_0 hl106_0; replace p106 := eq_true p106; replace q106 := eq_true q106; have p107 : 0 ≤ (0 : Int) := (by omega); have q107 : 0 < (t101.length : Int) := of_decide_eq_true (by first | (with_reducible assumption) | assumption); obtain ⟨ad107, A107_0, c107_0, e107, hx107_0, hl107_0, hi107_0⟩ := at_L1 (Kd.S_reads' HO105.out).2.2 0 p107 q107; obtain rfl : ad106 = ad107 := (by injection e107); obtain ⟨ce107, hce107, hMe107, hcc107⟩ := Kd.S_get HO105.out [] 0 p107 (by first | exact q107 | exact of_decide_eq_true (by first | (with_reducible assumption) | assumption) | (have e_ := (Kd.S_reads' HO105.out).1; omega)); obtain ⟨ve107_0, rfl, ge107_0⟩ := hMe107; have hv107_0 := hcc107 0 _ rfl; rw [Nat.add_zero, show ((Kd.slice 9 Kd.string)).sz = 1 from rfl, Nat.mul_one] at hv107_0; replace hv107_0 := Option.some.inj (hv107_0.symm.trans hx107_0); rw [hv107_0] at ge107_0; have HL107_0 := Aside0.mk (show Kd.R Kd.string 9 _ _ _ _ (rd_L1 t101 0) from ge107_0); clear hv107_0 ge107_0; clear hcc107 hce107; have qi107 : (0 < t101.length) = True := eq_true (by omega); (try rw [show ((0 : Int)).toNat = 0 from rfl] at hx107_0); (try rw [Addr.add_zero'] at hx107_0); have HR107_0 := Aside0.mk hi107_0; have HC107_0 := Aside0.mk hl107_0; clear hi107_0 hl107_0; replace p107 := eq_true p107; replace q107 := eq_true q107; have ea_ := Option.some.inj (hx106_0.symm.trans hx107_0); injection ea_ with ea_ en_ ec_; subst ea_; subst ec_; clear en_; have p108 : 0 ≤ (1 : Int) := (by omega); have q108 : 1 < ((rd_L1 t101 0).length : Int) := of_decide_eq_true (by first | (with_reducible assumption) | assumption); obtain ⟨ad108, e108, hx108_0⟩ := Kd.at_string (by repeat (first | (with_reducible exact HR107_0.out) | (with_reducible refine Kd.C_alloc ?_ _) | (with_reducible refine Kd.C_drewN ?_ _) | (with_reducible refine Kd.C_drew ?_) | exact HR107_0.out)) 1 p108 q108; cases e108; (try simp only [show (1 : Int).toNat = 1 from rfl, Nat.reduceMul, Nat.reduceEqDiff, Go.Addr.add, ↓reduceIte] at hx108_0); have qi108 : (1 < (rd_L1 t101 0).length) = True := eq_true (by omega); (try rw [show ((1 : Int)).toNat = 1 from rfl] at hx108_0); replace p108 := eq_true p108; replace q108 := eq_true q108))
                go_ret
                exact ⟨by first | rfl | (simp [errW_none, errW_some] <;> rfl) | (simp [*, errW_none, errW_some] <;> rfl), hbT HB.out⟩
            · rw [if_neg c7] at H
              exact absurd H (by simp)
          · rw [if_neg c6] at H
            have c6b0 : (((rd_L1 t101 0).length : Int) == 2) = false := beq_eq_false_iff_ne.mpr c6
            have c6b1 : (((rd_L1 t101 0).length : Int) != 2) = true := bne_iff_ne.mpr c6
            obtain rfl := Option.some.inj H
            go_enter Tryz.func7, Tryz.ntmps7
            go_wp2_with (first | ((with_reducible refine gate_callee (f := 19) rfl ?_); refine goesT (some 7) Tryz.func19 #[.string (⟨#[97, 44, 34, 98, 44, 99, 34, 13, 10]⟩ : ByteArray)] ?_; (with_reducible refine (csv_Split.calls (⟨#[97, 44, 34, 98, 44, 99, 34, 13, 10]⟩ : ByteArray) t101 t102 t103 _ A1.out).mono ?_); rintro e w19 ⟨v104, rfl, ho0, hb⟩; refine ⟨_, rfl, ?_⟩; have HO105 := Aside0.mk (Kd.S_lower ho0 (below_size (hbT HB.out))); replace HB := bsA HB hb; (try clear hb); (try clear hb2); (try clear hk); (try clear hi); (try clear ho0); obtain ⟨Ao20, co20, eo20⟩ := Kd.S_slice HO105.out; subst eo20; have p106 : 0 ≤ (0 : Int) := (by omega); have q106 : 0 < (t101.length : Int) := of_decide_eq_true (by first | (with_reducible assumption) | assumption); obtain ⟨ad106, A106_0, c106_0, e106, hx106_0, hl106_0, hi106_0⟩ := at_L1 (Kd.S_reads' HO105.out).2.2 0 p106 q106; cases e106; obtain ⟨ce106, hce106, hMe106, hcc106⟩ := Kd.S_get HO105.out [] 0 p106 (by first | exact q106 | exact of_decide_eq_true (by first | (with_reducible assumption) | assumption) | (have e_ := (Kd.S_reads' HO105.out).1; omega)); obtain ⟨ve106_0, rfl, ge106_0⟩ := hMe106; have hv106_0 := hcc106 0 _ rfl; rw [Nat.add_zero, show ((Kd.slice 9 Kd.string)).sz = 1 from rfl, Nat.mul_one] at hv106_0; replace hv106_0 := Option.some.inj (hv106_0.symm.trans hx106_0); rw [hv106_0] at ge106_0; have HL106_0 := Aside0.mk (show Kd.R Kd.string 9 _ _ _ _ (rd_L1 t101 0) from ge106_0); clear hv106_0 ge106_0; clear hcc106 hce106; have qi106 : (0 < t101.length) = True := eq_true (by omega); (try rw [show ((0 : Int)).toNat = 0 from rfl] at hx106_0); (try rw [Addr.add_zero'] at hx106_0); have HR106_0 := Aside0.mk hi106_0; have HC106_0 := Aside0.mk hl106_0; clear hi106_0 hl106_0; replace p106 := eq_true p106; replace q106 := eq_true q106))
            go_ret
            exact ⟨by first | rfl | (simp [errW_none, errW_some] <;> rfl) | (simp [*, errW_none, errW_some] <;> rfl), hbT HB.out⟩
        · rw [if_neg c5] at H
          exact absurd H (by simp)
      · rw [if_neg c4] at H
        have c4b0 : ((t101.length : Int) == 1) = false := beq_eq_false_iff_ne.mpr c4
        have c4b1 : ((t101.length : Int) != 1) = true := bne_iff_ne.mpr c4
        obtain rfl := Option.some.inj H
        go_enter Tryz.func7, Tryz.ntmps7
        go_wp2_with (first | ((with_reducible refine gate_callee (f := 19) rfl ?_); refine goesT (some 7) Tryz.func19 #[.string (⟨#[97, 44, 34, 98, 44, 99, 34, 13, 10]⟩ : ByteArray)] ?_; (with_reducible refine (csv_Split.calls (⟨#[97, 44, 34, 98, 44, 99, 34, 13, 10]⟩ : ByteArray) t101 t102 t103 _ A1.out).mono ?_); rintro e w21 ⟨v104, rfl, ho0, hb⟩; refine ⟨_, rfl, ?_⟩; have HO105 := Aside0.mk (Kd.S_lower ho0 (below_size (hbT HB.out))); replace HB := bsA HB hb; (try clear hb); (try clear hb2); (try clear hk); (try clear hi); (try clear ho0); obtain ⟨Ao22, co22, eo22⟩ := Kd.S_slice HO105.out; subst eo22))
        go_ret
        exact ⟨by first | rfl | (simp [errW_none, errW_some] <;> rfl) | (simp [*, errW_none, errW_some] <;> rfl), hbT HB.out⟩
    · rw [if_neg c3] at H
      have c3b0 : (t102 == 0) = false := beq_eq_false_iff_ne.mpr c3
      have c3b1 : (t102 != 0) = true := bne_iff_ne.mpr c3
      obtain rfl := Option.some.inj H
      go_enter Tryz.func7, Tryz.ntmps7
      go_wp2_with (first | ((with_reducible refine gate_callee (f := 19) rfl ?_); refine goesT (some 7) Tryz.func19 #[.string (⟨#[97, 44, 34, 98, 44, 99, 34, 13, 10]⟩ : ByteArray)] ?_; (with_reducible refine (csv_Split.calls (⟨#[97, 44, 34, 98, 44, 99, 34, 13, 10]⟩ : ByteArray) t101 t102 t103 _ A1.out).mono ?_); rintro e w23 ⟨v104, rfl, ho0, hb⟩; refine ⟨_, rfl, ?_⟩; have HO105 := Aside0.mk (Kd.S_lower ho0 (below_size (hbT HB.out))); replace HB := bsA HB hb; (try clear hb); (try clear hb2); (try clear hk); (try clear hi); (try clear ho0)))
      go_ret
      exact ⟨by first | rfl | (simp [errW_none, errW_some] <;> rfl) | (simp [*, errW_none, errW_some] <;> rfl), hbT HB.out⟩
  · rw [if_neg c2] at H
    have c2b0 : (t103 == 0) = false := beq_eq_false_iff_ne.mpr c2
    have c2b1 : (t103 != 0) = true := bne_iff_ne.mpr c2
    obtain rfl := Option.some.inj H
    go_enter Tryz.func7, Tryz.ntmps7
    go_wp2_with (first | ((with_reducible refine gate_callee (f := 19) rfl ?_); refine goesT (some 7) Tryz.func19 #[.string (⟨#[97, 44, 34, 98, 44, 99, 34, 13, 10]⟩ : ByteArray)] ?_; (with_reducible refine (csv_Split.calls (⟨#[97, 44, 34, 98, 44, 99, 34, 13, 10]⟩ : ByteArray) t101 t102 t103 _ A1.out).mono ?_); rintro e w24 ⟨v104, rfl, ho0, hb⟩; refine ⟨_, rfl, ?_⟩; have HO105 := Aside0.mk (Kd.S_lower ho0 (below_size (hbT HB.out))); replace HB := bsA HB hb; (try clear hb); (try clear hb2); (try clear hk); (try clear hi); (try clear ho0)))
    go_ret
    exact ⟨by first | rfl | (simp [errW_none, errW_some] <;> rfl) | (simp [*, errW_none, errW_some] <;> rfl), hbT HB.out⟩

/-! ### refrainlaw4_word: function 8 -/
def refrainlaw4_word.f (a0 : Int) : Option (ByteArray) := some (strOfNums (([114, (wrap64 (65 + a0)) % 256] : List Int)))
set_option maxHeartbeats 8000000 in
set_option maxRecDepth 100000 in
theorem refrainlaw4_word.calls (a0 : Int) (r : ByteArray) (w : World) (h : refrainlaw4_word.f a0 = some r) :
    Calls Tryz.prog 8 #[.int .i64 a0] w fun e w' => e = .returned (.string r) ∧ Below w.heap.size w w' := by
  have HB := Aside0.mk (Below.refl w.heap.size w)
  have H : (some (strOfNums (([114, (wrap64 (65 + a0)) % 256] : List Int)))) = some r := h
  clear h
  obtain ⟨y111, hy111⟩ : ∃ y_ : List Int, y_ = (([114, (wrap64 (65 + a0)) % 256] : List Int)) := ⟨_, rfl⟩
  replace H : (some (strOfNums y111)) = some r := by first | (rw [hy111]; with_reducible exact H) | (have H2_ := (Option.bind_some _ _).symm.trans H; rw [hy111]; with_reducible exact H2_) | (have H2_ := (Option.bind_some _ _).symm.trans H; with_reducible exact H2_) | with_reducible exact H | (rw [hy111]; exact H) | exact H
  have Ny111 := Aside0.mk hy111
  clear hy111
  obtain rfl := Option.some.inj H
  go_enter Tryz.func8, Tryz.ntmps8
  go_wp2_with (first | ((with_reducible refine gate_dst (N := 6) rfl ?_); refine Kd.R_lit (Kd.int .u8) _ 5 ?hg (N := 6) ?hd (xs := ([114, (wrap64 (65 + a0)) % 256] : List Int)) (inner := [.int .u8 114, .int .u8 ((wrap64 (65 + a0)) % 256)]) (ok := fun _ => True) (okp := fun _ => True) ?hr ?hp (fun _ hk => hk) trivial (Below.refl _ _) (Nat.le_refl _) (by simp) ?_; (case hd => rfl); (case hg => rfl); (case hr => first | (go_simp; done) | (go_simp; rfl)); (case hp => exact (Reps.one (show Kd.M (Kd.int .u8) _ _ _ 114 [.int .u8 114] from rfl) (Reps.one (show Kd.M (Kd.int .u8) _ _ _ ((wrap64 (65 + a0)) % 256) [.int .u8 ((wrap64 (65 + a0)) % 256)] from rfl) (Reps.none _ _)))); intro v112 w2 ho3 hb hg_ hnew_; clear hg_ hnew_; (first | rw [← Ny111.out] at ho3 | (simp only [Int.reduceToNat] at ho3; rw [← Ny111.out] at ho3)); have HO113 := Aside0.mk (Kd.R_lower ho3 (below_size (hbT HB.out))); replace HB := bsA HB hb; clear hb ho3; have hcv4 := own_string (P := Tryz.prog) Tryz.underlying71 Tryz.underlying5 Tryz.underlying9 (Kd.own_of_R HO113.out)))
  go_ret
  exact ⟨by first | rfl | (simp [errW_none, errW_some] <;> rfl) | (simp [*, errW_none, errW_some] <;> rfl), hbT HB.out⟩

/-! ### value_number: function 35 -/
def value_number.f (a0 : Int) : Option (Int × Int × ByteArray × Bool) := some (1, a0, (⟨#[]⟩ : ByteArray), false)
set_option maxHeartbeats 8000000 in
set_option maxRecDepth 100000 in
theorem value_number.calls (a0 : Int) (r1 : Int) (r2 : Int) (r3 : ByteArray) (r4 : Bool) (w : World) (h : value_number.f a0 = some (r1, r2, r3, r4)) :
    Calls Tryz.prog 35 #[.int .i64 a0] w fun e w' => e = .returned (.agg #[.int .i64 r1, .int .i64 r2, .string r3, .bool r4]) ∧ Below w.heap.size w w' := by
  have hu43 := Tryz.underlying43
  have HB := Aside0.mk (Below.refl w.heap.size w)
  have H : (some (1, a0, (⟨#[]⟩ : ByteArray), false)) = some (r1, r2, r3, r4) := h
  clear h
  simp only [Option.some.injEq, Prod.mk.injEq] at H
  obtain ⟨rfl, rfl, rfl, rfl⟩ := H
  go_enter Tryz.func35, Tryz.ntmps35
  go_wp2_with (first | ((with_reducible refine gate_dst (N := 2) rfl ?_); refine box_event ?hg (N := 2) ?hd (cs := #[.int .i64 0, .int .i64 0, .string (⟨#[]⟩ : ByteArray), .bool false]) (t := 43) ?hr ?_; (case hd => rfl); (case hg => rfl); (case hr => first | (go_simp; done) | (go_simp; rfl)); intro gb115 hg w2 hbox hb; have BK115 := Aside0.mk hbox; have GW115 := geA hg HB; have GE115 := geA hg HB; replace HB := bsA HB hb; clear hb hbox hg; have hcz3_0 : w2.cell? ⟨gb115, 0, none⟩ = some (.int .i64 0) := (blk_cell BK115.out 0).trans rfl; have hcz3_1 : w2.cell? ⟨gb115, 1, none⟩ = some (.int .i64 0) := (blk_cell BK115.out 1).trans rfl; have hcz3_2 : w2.cell? ⟨gb115, 2, none⟩ = some (.string (⟨#[]⟩ : ByteArray)) := (blk_cell BK115.out 2).trans rfl; have hcz3_3 : w2.cell? ⟨gb115, 3, none⟩ = some (.bool false) := (blk_cell BK115.out 3).trans rfl; have hfz3_0 := blk_frozen BK115.out 0; have hfz3_1 := blk_frozen BK115.out 1; have hfz3_2 := blk_frozen BK115.out 2; have hfz3_3 := blk_frozen BK115.out 3))
  refine bodyPost_ret (results_cell_row rfl _ _ gb115 43 #[.int .i64 1, .int .i64 a0, .string (⟨#[]⟩ : ByteArray), .bool false] (0, 0) _ rfl (by (with_reducible repeat (first | refine blk_drewN ?_ _ | refine blk_drew ?_ | refine blk_alloc ?_ _)); refine blk_put (cs := #[.int .i64 1, .int .i64 a0, .string (⟨#[]⟩ : ByteArray), .bool false]) ?_ 3 _ rfl; (with_reducible repeat (first | refine blk_drewN ?_ _ | refine blk_drew ?_ | refine blk_alloc ?_ _)); refine blk_put (cs := #[.int .i64 1, .int .i64 a0, .string (⟨#[]⟩ : ByteArray), .bool false]) ?_ 2 _ rfl; (with_reducible repeat (first | refine blk_drewN ?_ _ | refine blk_drew ?_ | refine blk_alloc ?_ _)); refine blk_put (cs := #[.int .i64 1, .int .i64 0, .string (⟨#[]⟩ : ByteArray), .bool false]) ?_ 1 _ rfl; (with_reducible repeat (first | refine blk_drewN ?_ _ | refine blk_drew ?_ | refine blk_alloc ?_ _)); refine blk_put (cs := #[.int .i64 0, .int .i64 0, .string (⟨#[]⟩ : ByteArray), .bool false]) ?_ 0 _ rfl; (with_reducible repeat (first | refine blk_drewN ?_ _ | refine blk_drew ?_ | refine blk_alloc ?_ _)); exact BK115.out) Tryz.underlying43 rfl (by kernel_rfl)) rfl ?_
  exact ⟨by first | rfl | (simp [errW_none, errW_some] <;> rfl) | (simp [*, errW_none, errW_some] <;> rfl), hbT HB.out⟩

/-! ### value_text: function 36 -/
def value_text.f (a0 : ByteArray) : Option (Int × Int × ByteArray × Bool) := some (2, 0, a0, false)
set_option maxHeartbeats 8000000 in
set_option maxRecDepth 100000 in
theorem value_text.calls (a0 : ByteArray) (r1 : Int) (r2 : Int) (r3 : ByteArray) (r4 : Bool) (w : World) (h : value_text.f a0 = some (r1, r2, r3, r4)) :
    Calls Tryz.prog 36 #[.string a0] w fun e w' => e = .returned (.agg #[.int .i64 r1, .int .i64 r2, .string r3, .bool r4]) ∧ Below w.heap.size w w' := by
  have hu43 := Tryz.underlying43
  have HB := Aside0.mk (Below.refl w.heap.size w)
  have H : (some (2, 0, a0, false)) = some (r1, r2, r3, r4) := h
  clear h
  simp only [Option.some.injEq, Prod.mk.injEq] at H
  obtain ⟨rfl, rfl, rfl, rfl⟩ := H
  go_enter Tryz.func36, Tryz.ntmps36
  go_wp2_with (first | ((with_reducible refine gate_dst (N := 2) rfl ?_); refine box_event ?hg (N := 2) ?hd (cs := #[.int .i64 0, .int .i64 0, .string (⟨#[]⟩ : ByteArray), .bool false]) (t := 43) ?hr ?_; (case hd => rfl); (case hg => rfl); (case hr => first | (go_simp; done) | (go_simp; rfl)); intro gb116 hg w2 hbox hb; have BK116 := Aside0.mk hbox; have GW116 := geA hg HB; have GE116 := geA hg HB; replace HB := bsA HB hb; clear hb hbox hg; have hcz3_0 : w2.cell? ⟨gb116, 0, none⟩ = some (.int .i64 0) := (blk_cell BK116.out 0).trans rfl; have hcz3_1 : w2.cell? ⟨gb116, 1, none⟩ = some (.int .i64 0) := (blk_cell BK116.out 1).trans rfl; have hcz3_2 : w2.cell? ⟨gb116, 2, none⟩ = some (.string (⟨#[]⟩ : ByteArray)) := (blk_cell BK116.out 2).trans rfl; have hcz3_3 : w2.cell? ⟨gb116, 3, none⟩ = some (.bool false) := (blk_cell BK116.out 3).trans rfl; have hfz3_0 := blk_frozen BK116.out 0; have hfz3_1 := blk_frozen BK116.out 1; have hfz3_2 := blk_frozen BK116.out 2; have hfz3_3 := blk_frozen BK116.out 3))
  refine bodyPost_ret (results_cell_row rfl _ _ gb116 43 #[.int .i64 2, .int .i64 0, .string a0, .bool false] (0, 0) _ rfl (by (with_reducible repeat (first | refine blk_drewN ?_ _ | refine blk_drew ?_ | refine blk_alloc ?_ _)); refine blk_put (cs := #[.int .i64 2, .int .i64 0, .string a0, .bool false]) ?_ 3 _ rfl; (with_reducible repeat (first | refine blk_drewN ?_ _ | refine blk_drew ?_ | refine blk_alloc ?_ _)); refine blk_put (cs := #[.int .i64 2, .int .i64 0, .string (⟨#[]⟩ : ByteArray), .bool false]) ?_ 2 _ rfl; (with_reducible repeat (first | refine blk_drewN ?_ _ | refine blk_drew ?_ | refine blk_alloc ?_ _)); refine blk_put (cs := #[.int .i64 2, .int .i64 0, .string (⟨#[]⟩ : ByteArray), .bool false]) ?_ 1 _ rfl; (with_reducible repeat (first | refine blk_drewN ?_ _ | refine blk_drew ?_ | refine blk_alloc ?_ _)); refine blk_put (cs := #[.int .i64 0, .int .i64 0, .string (⟨#[]⟩ : ByteArray), .bool false]) ?_ 0 _ rfl; (with_reducible repeat (first | refine blk_drewN ?_ _ | refine blk_drew ?_ | refine blk_alloc ?_ _)); exact BK116.out) Tryz.underlying43 rfl (by kernel_rfl)) rfl ?_
  exact ⟨by first | rfl | (simp [errW_none, errW_some] <;> rfl) | (simp [*, errW_none, errW_some] <;> rfl), hbT HB.out⟩

/-! ### value_truth: function 37 -/
def value_truth.f (a0 : Bool) : Option (Int × Int × ByteArray × Bool) := some (3, 0, (⟨#[]⟩ : ByteArray), a0)
set_option maxHeartbeats 8000000 in
set_option maxRecDepth 100000 in
theorem value_truth.calls (a0 : Bool) (r1 : Int) (r2 : Int) (r3 : ByteArray) (r4 : Bool) (w : World) (h : value_truth.f a0 = some (r1, r2, r3, r4)) :
    Calls Tryz.prog 37 #[.bool a0] w fun e w' => e = .returned (.agg #[.int .i64 r1, .int .i64 r2, .string r3, .bool r4]) ∧ Below w.heap.size w w' := by
  have hu43 := Tryz.underlying43
  have HB := Aside0.mk (Below.refl w.heap.size w)
  have H : (some (3, 0, (⟨#[]⟩ : ByteArray), a0)) = some (r1, r2, r3, r4) := h
  clear h
  simp only [Option.some.injEq, Prod.mk.injEq] at H
  obtain ⟨rfl, rfl, rfl, rfl⟩ := H
  go_enter Tryz.func37, Tryz.ntmps37
  go_wp2_with (first | ((with_reducible refine gate_dst (N := 2) rfl ?_); refine box_event ?hg (N := 2) ?hd (cs := #[.int .i64 0, .int .i64 0, .string (⟨#[]⟩ : ByteArray), .bool false]) (t := 43) ?hr ?_; (case hd => rfl); (case hg => rfl); (case hr => first | (go_simp; done) | (go_simp; rfl)); intro gb117 hg w2 hbox hb; have BK117 := Aside0.mk hbox; have GW117 := geA hg HB; have GE117 := geA hg HB; replace HB := bsA HB hb; clear hb hbox hg; have hcz3_0 : w2.cell? ⟨gb117, 0, none⟩ = some (.int .i64 0) := (blk_cell BK117.out 0).trans rfl; have hcz3_1 : w2.cell? ⟨gb117, 1, none⟩ = some (.int .i64 0) := (blk_cell BK117.out 1).trans rfl; have hcz3_2 : w2.cell? ⟨gb117, 2, none⟩ = some (.string (⟨#[]⟩ : ByteArray)) := (blk_cell BK117.out 2).trans rfl; have hcz3_3 : w2.cell? ⟨gb117, 3, none⟩ = some (.bool false) := (blk_cell BK117.out 3).trans rfl; have hfz3_0 := blk_frozen BK117.out 0; have hfz3_1 := blk_frozen BK117.out 1; have hfz3_2 := blk_frozen BK117.out 2; have hfz3_3 := blk_frozen BK117.out 3))
  refine bodyPost_ret (results_cell_row rfl _ _ gb117 43 #[.int .i64 3, .int .i64 0, .string (⟨#[]⟩ : ByteArray), .bool a0] (0, 0) _ rfl (by (with_reducible repeat (first | refine blk_drewN ?_ _ | refine blk_drew ?_ | refine blk_alloc ?_ _)); refine blk_put (cs := #[.int .i64 3, .int .i64 0, .string (⟨#[]⟩ : ByteArray), .bool false]) ?_ 3 _ rfl; (with_reducible repeat (first | refine blk_drewN ?_ _ | refine blk_drew ?_ | refine blk_alloc ?_ _)); refine blk_put (cs := #[.int .i64 3, .int .i64 0, .string (⟨#[]⟩ : ByteArray), .bool false]) ?_ 2 _ rfl; (with_reducible repeat (first | refine blk_drewN ?_ _ | refine blk_drew ?_ | refine blk_alloc ?_ _)); refine blk_put (cs := #[.int .i64 3, .int .i64 0, .string (⟨#[]⟩ : ByteArray), .bool false]) ?_ 1 _ rfl; (with_reducible repeat (first | refine blk_drewN ?_ _ | refine blk_drew ?_ | refine blk_alloc ?_ _)); refine blk_put (cs := #[.int .i64 0, .int .i64 0, .string (⟨#[]⟩ : ByteArray), .bool false]) ?_ 0 _ rfl; (with_reducible repeat (first | refine blk_drewN ?_ _ | refine blk_drew ?_ | refine blk_alloc ?_ _)); exact BK117.out) Tryz.underlying43 rfl (by kernel_rfl)) rfl ?_
  exact ⟨by first | rfl | (simp [errW_none, errW_some] <;> rfl) | (simp [*, errW_none, errW_some] <;> rfl), hbT HB.out⟩

/-! ### value_Valid: function 17 -/
def value_Valid.f (a0_0 : Int) (a0_1 : Int) (a0_2 : ByteArray) (a0_3 : Bool) : Option (Bool) := if a0_0 = 1 then ((value_number.f a0_1).bind fun bt119 => (some (a0_0 == bt119.1 && (a0_1 == bt119.2.1 && (a0_2.toList == bt119.2.2.1.toList && (a0_3 == bt119.2.2.2)))))) else (if a0_0 = 2 then ((value_text.f a0_2).bind fun bt123 => (if (a0_0 == bt123.1 && (a0_1 == bt123.2.1 && (a0_2.toList == bt123.2.2.1.toList && (a0_3 == bt123.2.2.2)))) = true then (some (decide ((a0_2.size : Int) ≤ 256))) else (some false))) else (if a0_0 = 3 then ((value_truth.f a0_3).bind fun bt127 => (some (a0_0 == bt127.1 && (a0_1 == bt127.2.1 && (a0_2.toList == bt127.2.2.1.toList && (a0_3 == bt127.2.2.2)))))) else (some false)))
def value_Valid.T5 : Bool × List (List Nat × List Nat) := (true, [([], []), ([], []), ([1], [1]), ([2], [2]), ([0, 3], [0, 3]), ([4, 3], [4]), ([5], [5]), ([6, 5], [5, 6]), ([7, 5], [5, 7]), ([8, 5], [5, 8]), ([5, 9], [5, 9]), ([10, 5, 0, 1, 2, 3, 4, 5, 6, 7, 8, 9, 10], [10])])
def value_Valid.B5 : List Nat := [0, 0, 2, 6, 15, 31, 63, 127, 255, 511, 1023, 2047]
theorem value_Valid.tab5 : rtab .any (opsOf Tryz.f17 5) = value_Valid.T5 := by kernel_rfl
theorem value_Valid.bits5 : waitsOk value_Valid.T5.2 value_Valid.B5 = true := by kernel_rfl
set_option maxHeartbeats 8000000 in
set_option maxRecDepth 100000 in
theorem value_Valid.calls (a0_0 : Int) (a0_1 : Int) (a0_2 : ByteArray) (a0_3 : Bool) (r : Bool) (w : World) (h : value_Valid.f a0_0 a0_1 a0_2 a0_3 = some r) :
    Calls Tryz.prog 17 #[.agg #[.int .i64 a0_0, .int .i64 a0_1, .string a0_2, .bool a0_3]] w fun e w' => e = .returned (.bool r) ∧ Below w.heap.size w w' := by
  have hu43 := Tryz.underlying43
  have HB := Aside0.mk (Below.refl w.heap.size w)
  have H : (if a0_0 = 1 then ((value_number.f a0_1).bind fun bt119 => (some (a0_0 == bt119.1 && (a0_1 == bt119.2.1 && (a0_2.toList == bt119.2.2.1.toList && (a0_3 == bt119.2.2.2)))))) else (if a0_0 = 2 then ((value_text.f a0_2).bind fun bt123 => (if (a0_0 == bt123.1 && (a0_1 == bt123.2.1 && (a0_2.toList == bt123.2.2.1.toList && (a0_3 == bt123.2.2.2)))) = true then (some (decide ((a0_2.size : Int) ≤ 256))) else (some false))) else (if a0_0 = 3 then ((value_truth.f a0_3).bind fun bt127 => (some (a0_0 == bt127.1 && (a0_1 == bt127.2.1 && (a0_2.toList == bt127.2.2.1.toList && (a0_3 == bt127.2.2.2)))))) else (some false)))) = some r := h
  clear h
  by_cases c2 : a0_0 = 1
  · rw [if_pos c2] at H
    have c2b0 : (a0_0 == 1) = true := beq_iff_eq.mpr c2
    have c2b1 : (a0_0 != 1) = false := bne_eq_false_iff_eq.mpr c2
    clear c2
    replace H := Option.bind_eq_some_iff.mp H
    obtain ⟨⟨t119, t120, t121, t122⟩, A30, H⟩ := H
    replace H : (some (a0_0 == t119 && (a0_1 == t120 && (a0_2.toList == t121.toList && (a0_3 == t122))))) = some r := H
    have A3 := Aside0.mk A30
    clear A30
    obtain rfl := Option.some.inj H
    go_enter Tryz.func17, Tryz.ntmps17
    try go_wp2_with (first | ((with_reducible refine gate_dst (N := 1) rfl ?_); (try (refine gate_guard (by rfl) ?_; dsimp only)); refine box_event ?hg (N := 1) ?hd (cs := #[.int .i64 a0_0, .int .i64 a0_1, .string a0_2, .bool a0_3]) (t := 43) ?hr ?_; (case hd => rfl); (case hg => rfl); (case hr => first | (go_simp; done) | (go_simp; rfl)); intro gb118 hg w4 hbox hb; have BK118 := Aside0.mk hbox; have GW118 := geA hg HB; have GE118 := geA hg HB; replace HB := bsA HB hb; clear hb hbox hg; have hcz5_0 : w4.cell? ⟨gb118, 0, none⟩ = some (.int .i64 a0_0) := (blk_cell BK118.out 0).trans rfl; have hcz5_1 : w4.cell? ⟨gb118, 1, none⟩ = some (.int .i64 a0_1) := (blk_cell BK118.out 1).trans rfl; have hcz5_2 : w4.cell? ⟨gb118, 2, none⟩ = some (.string a0_2) := (blk_cell BK118.out 2).trans rfl; have hcz5_3 : w4.cell? ⟨gb118, 3, none⟩ = some (.bool a0_3) := (blk_cell BK118.out 3).trans rfl; have hfz5_0 := blk_frozen BK118.out 0; have hfz5_1 := blk_frozen BK118.out 1; have hfz5_2 := blk_frozen BK118.out 2; have hfz5_3 := blk_frozen BK118.out 3))
    replace BK118 := bdA BK118; replace HB := Aside0.mk (below_drew1 HB.out)
    refine start_ (n := 6) (S := fun w' => w'.cell? ⟨gb118, 0, none⟩ = some (.int .i64 a0_0) ∧ w'.cell? ⟨gb118, 1, none⟩ = some (.int .i64 a0_1) ∧ w'.cell? ⟨gb118, 2, none⟩ = some (.string a0_2) ∧ w'.cell? ⟨gb118, 3, none⟩ = some (.bool a0_3)) (ds := []) #[false, false, false, false, false, false] (by kernel_rfl) rfl rfl ⟨(blk_cell BK118.out 0).trans rfl, (blk_cell BK118.out 1).trans rfl, (blk_cell BK118.out 2).trans rfl, (blk_cell BK118.out 3).trans rfl⟩ (fun hHeld => ?_)
    generalize w4.drew = w6 at BK118 HB hHeld ⊢
    refine pure_ (i := 1) (N := some 8) (v := ?_) (a' := ?_) #[false, true, false, false, false, false] rfl rfl (by kernel_rfl) (fun _ _ _ h => h) (Or.inl ⟨by rfl, ?_⟩) ?_ ?_
    rotate_left; (focus (intro w'; go_simp; with_reducible rfl)); rotate_left; (focus (simp only [Act.put, List.setIfInBounds_toArray, List.set_cons_zero, List.set_cons_succ, i64_w, i32_w, IntKind.wrap_u8, IntKind.wrap_u16, IntKind.wrap_u32]; rfl))
    refine take_ (i := 0) (N := some 7) (v := ?_) (a' := ?_) #[true, true, false, false, false, false] rfl rfl (by kernel_rfl) (fun _ _ _ h => h) (Or.inl ⟨by rfl, ?_⟩) hHeld ?_ ?_
    rotate_left; (focus (rintro w' ⟨s0, s1, s2, s3⟩; go_simp; with_reducible rfl)); rotate_left; (focus (simp only [Act.put, List.setIfInBounds_toArray, List.set_cons_zero, List.set_cons_succ, i64_w, i32_w, IntKind.wrap_u8, IntKind.wrap_u16, IntKind.wrap_u32]; rfl))
    refine take_ (i := 2) (N := some 9) (v := ?_) (a' := ?_) #[true, true, true, false, false, false] rfl rfl (by kernel_rfl) (fun _ _ _ h => h) (Or.inl ⟨by rfl, ?_⟩) hHeld ?_ ?_
    rotate_left; (focus (rintro w' ⟨s0, s1, s2, s3⟩; go_simp; with_reducible rfl)); rotate_left; (focus (simp only [Act.put, List.setIfInBounds_toArray, List.set_cons_zero, List.set_cons_succ, i64_w, i32_w, IntKind.wrap_u8, IntKind.wrap_u16, IntKind.wrap_u32]; rfl))
    refine one_ (i := 3) (N := some 10) #[true, true, true, true, false, false] rfl rfl (by kernel_rfl) (by decide) (fun K hK => ?_)
    refine goes_ Tryz.func35 (by kernel_rfl) rfl #[.int .i64 a0_1] (by rfl) rfl rfl (by (try simp only [List.map_toArray, List.map_cons, List.map_nil]); first | done | rfl | (simp only [List.length_drop, List.length_take]; rfl)) ?_
    with_reducible refine (value_number.calls a0_1 t119 t120 t121 t122 _ A3.out).mono ?_
    rintro e w7 ⟨rfl, hb⟩
    refine ⟨_, rfl, ?_⟩
    replace BK118 := bbA BK118 hb; replace HB := bsA HB hb
    (try clear hb); (try clear hb2); (try clear hk); (try clear hi)
    refine hK.out _ _ ⟨(blk_cell BK118.out 0).trans rfl, (blk_cell BK118.out 1).trans rfl, (blk_cell BK118.out 2).trans rfl, (blk_cell BK118.out 3).trans rfl⟩ (fun hHeld => ?_)
    clear hK K
    refine norm_ (a' := ?_) ?_ ?_
    rotate_left
    · show Act.put _ (some 10) _ = _
      simp only [Act.put, List.setIfInBounds_toArray, List.set_cons_zero, List.set_cons_succ, i64_w, i32_w, IntKind.wrap_u8, IntKind.wrap_u16, IntKind.wrap_u32]
      rfl
    refine pure_ (i := 4) (N := some 11) (v := ?_) (a' := ?_) #[true, true, true, true, true, false] rfl rfl (by kernel_rfl) (fun _ _ _ h => h) (Or.inl ⟨by rfl, ?_⟩) ?_ ?_
    rotate_left; (focus (intro w'; go_simp; with_reducible rfl)); rotate_left; (focus (simp only [Act.put, List.setIfInBounds_toArray, List.set_cons_zero, List.set_cons_succ, i64_w, i32_w, IntKind.wrap_u8, IntKind.wrap_u16, IntKind.wrap_u32]; rfl))
    refine pure_ (i := 5) (N := some 2) (v := ?_) (a' := ?_) #[true, true, true, true, true, true] rfl rfl (by kernel_rfl) (fun _ _ _ h => h) (Or.inl ⟨by rfl, ?_⟩) ?_ ?_
    rotate_left; (focus (intro w'; go_simp; with_reducible rfl)); rotate_left; (focus (simp only [Act.put, List.setIfInBounds_toArray, List.set_cons_zero, List.set_cons_succ, i64_w, i32_w, IntKind.wrap_u8, IntKind.wrap_u16, IntKind.wrap_u32]; rfl))
    refine done_ (by kernel_rfl) ?_
    try go_wp2
    go_ret
    exact ⟨by first | rfl | (simp [errW_none, errW_some] <;> rfl) | (simp [*, errW_none, errW_some] <;> rfl), hbT HB.out⟩
  · rw [if_neg c2] at H
    have c2b0 : (a0_0 == 1) = false := beq_eq_false_iff_ne.mpr c2
    have c2b1 : (a0_0 != 1) = true := bne_iff_ne.mpr c2
    by_cases c8 : a0_0 = 2
    · rw [if_pos c8] at H
      have c8b0 : (a0_0 == 2) = true := beq_iff_eq.mpr c8
      have c8b1 : (a0_0 != 2) = false := bne_eq_false_iff_eq.mpr c8
      clear c8
      replace H := Option.bind_eq_some_iff.mp H
      obtain ⟨⟨t123, t124, t125, t126⟩, A90, H⟩ := H
      replace H : (if (a0_0 == t123 && (a0_1 == t124 && (a0_2.toList == t125.toList && (a0_3 == t126)))) = true then (some (decide ((a0_2.size : Int) ≤ 256))) else (some false)) = some r := H
      have A9 := Aside0.mk A90
      clear A90
      by_cases c10 : (a0_0 == t123 && (a0_1 == t124 && (a0_2.toList == t125.toList && (a0_3 == t126)))) = true
      · rw [if_pos c10] at H
        have c10b0 : (a0_0 == t123 && (a0_1 == t124 && (a0_2.toList == t125.toList && (a0_3 == t126)))) = true := c10
        (try (have c10b5 := c10; simp only [Bool.and_eq_true, beq_iff_eq, Bool.not_eq_true', Bool.not_eq_true, bne_iff_ne, decide_eq_true_eq] at c10b5; replace c10b5 := Aside0.mk c10b5))
        (try (have c10b1 : decide (a0_0 = t123 && (a0_1 == t124 && (a0_2.toList == t125.toList && (a0_3 == t126)))) = true := by simpa using c10))
        (try (have c10b2 : (a0_0 == t123 && (a0_1 == t124 && (a0_2.toList == t125.toList && (a0_3 == t126)))) = true := by simpa using c10))
        clear c10
        obtain rfl := Option.some.inj H
        go_enter Tryz.func17, Tryz.ntmps17
        try go_wp2_with (first | ((with_reducible refine gate_dst (N := 1) rfl ?_); (try (refine gate_guard (by rfl) ?_; dsimp only)); refine box_event ?hg (N := 1) ?hd (cs := #[.int .i64 a0_0, .int .i64 a0_1, .string a0_2, .bool a0_3]) (t := 43) ?hr ?_; (case hd => rfl); (case hg => rfl); (case hr => first | (go_simp; done) | (go_simp; rfl)); intro gb118 hg w11 hbox hb; have BK118 := Aside0.mk hbox; have GW118 := geA hg HB; have GE118 := geA hg HB; replace HB := bsA HB hb; clear hb hbox hg; have hcz12_0 : w11.cell? ⟨gb118, 0, none⟩ = some (.int .i64 a0_0) := (blk_cell BK118.out 0).trans rfl; have hcz12_1 : w11.cell? ⟨gb118, 1, none⟩ = some (.int .i64 a0_1) := (blk_cell BK118.out 1).trans rfl; have hcz12_2 : w11.cell? ⟨gb118, 2, none⟩ = some (.string a0_2) := (blk_cell BK118.out 2).trans rfl; have hcz12_3 : w11.cell? ⟨gb118, 3, none⟩ = some (.bool a0_3) := (blk_cell BK118.out 3).trans rfl; have hfz12_0 := blk_frozen BK118.out 0; have hfz12_1 := blk_frozen BK118.out 1; have hfz12_2 := blk_frozen BK118.out 2; have hfz12_3 := blk_frozen BK118.out 3))
        replace BK118 := bdA BK118; replace HB := Aside0.mk (below_drew1 HB.out)
        refine start_ (n := 12) (S := fun w' => w'.cell? ⟨gb118, 0, none⟩ = some (.int .i64 a0_0) ∧ w'.cell? ⟨gb118, 1, none⟩ = some (.int .i64 a0_1) ∧ w'.cell? ⟨gb118, 2, none⟩ = some (.string a0_2) ∧ w'.cell? ⟨gb118, 3, none⟩ = some (.bool a0_3)) (ds := []) #[false, false, false, false, false, false, false, false, false, false, false, false] (by kernel_rfl) rfl rfl ⟨(blk_cell BK118.out 0).trans rfl, (blk_cell BK118.out 1).trans rfl, (blk_cell BK118.out 2).trans rfl, (blk_cell BK118.out 3).trans rfl⟩ (fun hHeld => ?_); refine with_tabW value_Valid.tab5 value_Valid.bits5 (fun HT_ HW_ => ?_)
        generalize w11.drew = w13 at BK118 HB hHeld ⊢
        refine pure_ (i := 1) (N := some 15) (v := ?_) (a' := ?_) #[false, true, false, false, false, false, false, false, false, false, false, false] rfl rfl (any_of HT_.out (by kernel_rfl)) (fun _ _ _ h => h) (Or.inl ⟨by rfl, ?_⟩) ?_ ?_
        rotate_left; (focus (intro w'; go_simp; with_reducible rfl)); rotate_left; (focus (simp only [Act.put, List.setIfInBounds_toArray, List.set_cons_zero, List.set_cons_succ, i64_w, i32_w, IntKind.wrap_u8, IntKind.wrap_u16, IntKind.wrap_u32]; rfl))
        refine take_ (i := 0) (N := some 14) (v := ?_) (a' := ?_) #[true, true, false, false, false, false, false, false, false, false, false, false] rfl rfl (take_ofW HT_.out HW_.out (by kernel_rfl)) (fun _ _ _ h => h) (Or.inl ⟨by rfl, ?_⟩) hHeld ?_ ?_
        rotate_left; (focus (rintro w' ⟨s0, s1, s2, s3⟩; go_simp; with_reducible rfl)); rotate_left; (focus (simp only [Act.put, List.setIfInBounds_toArray, List.set_cons_zero, List.set_cons_succ, i64_w, i32_w, IntKind.wrap_u8, IntKind.wrap_u16, IntKind.wrap_u32]; rfl))
        refine take_ (i := 2) (N := some 16) (v := ?_) (a' := ?_) #[true, true, true, false, false, false, false, false, false, false, false, false] rfl rfl (take_ofW HT_.out HW_.out (by kernel_rfl)) (fun _ _ _ h => h) (Or.inl ⟨by rfl, ?_⟩) hHeld ?_ ?_
        rotate_left; (focus (rintro w' ⟨s0, s1, s2, s3⟩; go_simp; with_reducible rfl)); rotate_left; (focus (simp only [Act.put, List.setIfInBounds_toArray, List.set_cons_zero, List.set_cons_succ, i64_w, i32_w, IntKind.wrap_u8, IntKind.wrap_u16, IntKind.wrap_u32]; rfl))
        refine one_ (i := 3) (N := some 17) #[true, true, true, true, false, false, false, false, false, false, false, false] rfl rfl (one_of HT_.out (by kernel_rfl)) (by decide) (fun K hK => ?_)
        refine goes_ Tryz.func36 (by kernel_rfl) rfl #[.string a0_2] (by rfl) rfl rfl (by (try simp only [List.map_toArray, List.map_cons, List.map_nil]); first | done | rfl | (simp only [List.length_drop, List.length_take]; rfl)) ?_
        with_reducible refine (value_text.calls a0_2 t123 t124 t125 t126 _ A9.out).mono ?_
        rintro e w14 ⟨rfl, hb⟩
        refine ⟨_, rfl, ?_⟩
        replace BK118 := bbA BK118 hb; replace HB := bsA HB hb
        (try clear hb); (try clear hb2); (try clear hk); (try clear hi)
        refine hK.out _ _ ⟨(blk_cell BK118.out 0).trans rfl, (blk_cell BK118.out 1).trans rfl, (blk_cell BK118.out 2).trans rfl, (blk_cell BK118.out 3).trans rfl⟩ (fun hHeld => ?_)
        clear hK K
        refine norm_ (a' := ?_) ?_ ?_
        rotate_left
        · show Act.put _ (some 17) _ = _
          simp only [Act.put, List.setIfInBounds_toArray, List.set_cons_zero, List.set_cons_succ, i64_w, i32_w, IntKind.wrap_u8, IntKind.wrap_u16, IntKind.wrap_u32]
          rfl
        refine pure_ (i := 4) (N := some 18) (v := ?_) (a' := ?_) #[true, true, true, true, true, false, false, false, false, false, false, false] rfl rfl (any_of HT_.out (by kernel_rfl)) (fun _ _ _ h => h) (Or.inl ⟨by rfl, ?_⟩) ?_ ?_
        rotate_left; (focus (intro w'; go_simp; with_reducible rfl)); rotate_left; (focus (simp only [Act.put, List.setIfInBounds_toArray, List.set_cons_zero, List.set_cons_succ, i64_w, i32_w, IntKind.wrap_u8, IntKind.wrap_u16, IntKind.wrap_u32]; rfl))
        refine pure_ (i := 5) (N := some 19) (v := ?_) (a' := ?_) #[true, true, true, true, true, true, false, false, false, false, false, false] rfl rfl (any_of HT_.out (by kernel_rfl)) (fun _ _ _ h => h) (Or.inl ⟨by rfl, ?_⟩) ?_ ?_
        rotate_left; (focus (intro w'; go_simp; with_reducible rfl)); rotate_left; (focus (simp only [Act.put, List.setIfInBounds_toArray, List.set_cons_zero, List.set_cons_succ, i64_w, i32_w, IntKind.wrap_u8, IntKind.wrap_u16, IntKind.wrap_u32]; rfl))
        refine pure_ (i := 6) (N := some 20) (v := ?_) (a' := ?_) #[true, true, true, true, true, true, true, false, false, false, false, false] rfl rfl (any_of HT_.out (by kernel_rfl)) (fun _ _ _ h => h) (Or.inl ⟨by rfl, ?_⟩) ?_ ?_
        rotate_left; (focus (intro w'; go_simp; with_reducible rfl)); rotate_left; (focus (simp only [Act.put, List.setIfInBounds_toArray, List.set_cons_zero, List.set_cons_succ, i64_w, i32_w, IntKind.wrap_u8, IntKind.wrap_u16, IntKind.wrap_u32]; rfl))
        refine take_ (i := 7) (N := some 21) (v := ?_) (a' := ?_) #[true, true, true, true, true, true, true, true, false, false, false, false] rfl rfl (take_ofW HT_.out HW_.out (by kernel_rfl)) (fun _ _ _ h => h) (Or.inl ⟨by rfl, ?_⟩) hHeld ?_ ?_
        rotate_left; (focus (rintro w' ⟨s0, s1, s2, s3⟩; go_simp; with_reducible rfl)); rotate_left; (focus (simp only [Act.put, List.setIfInBounds_toArray, List.set_cons_zero, List.set_cons_succ, i64_w, i32_w, IntKind.wrap_u8, IntKind.wrap_u16, IntKind.wrap_u32]; rfl))
        refine pure_ (i := 8) (N := some 22) (v := ?_) (a' := ?_) #[true, true, true, true, true, true, true, true, true, false, false, false] rfl rfl (any_of HT_.out (by kernel_rfl)) (fun _ _ _ h => h) (Or.inl ⟨by rfl, ?_⟩) ?_ ?_
        rotate_left; (focus (intro w'; go_simp; with_reducible rfl)); rotate_left; (focus (simp only [Act.put, List.setIfInBounds_toArray, List.set_cons_zero, List.set_cons_succ, i64_w, i32_w, IntKind.wrap_u8, IntKind.wrap_u16, IntKind.wrap_u32]; rfl))
        refine pure_ (i := 9) (N := some 23) (v := ?_) (a' := ?_) #[true, true, true, true, true, true, true, true, true, true, false, false] rfl rfl (any_of HT_.out (by kernel_rfl)) (fun _ _ _ h => h) (Or.inl ⟨by rfl, ?_⟩) ?_ ?_
        rotate_left; (focus (intro w'; go_simp; with_reducible rfl)); rotate_left; (focus (simp only [Act.put, List.setIfInBounds_toArray, List.set_cons_zero, List.set_cons_succ, i64_w, i32_w, IntKind.wrap_u8, IntKind.wrap_u16, IntKind.wrap_u32]; rfl))
        refine pure_ (i := 10) (N := some 24) (v := ?_) (a' := ?_) #[true, true, true, true, true, true, true, true, true, true, true, false] rfl rfl (any_of HT_.out (by kernel_rfl)) (fun _ _ _ h => h) (Or.inl ⟨by rfl, ?_⟩) ?_ ?_
        rotate_left; (focus (intro w'; go_simp; with_reducible rfl)); rotate_left; (focus (simp only [Act.put, List.setIfInBounds_toArray, List.set_cons_zero, List.set_cons_succ, i64_w, i32_w, IntKind.wrap_u8, IntKind.wrap_u16, IntKind.wrap_u32]; rfl))
        refine pure_ (i := 11) (N := some 2) (v := ?_) (a' := ?_) #[true, true, true, true, true, true, true, true, true, true, true, true] rfl rfl (any_of HT_.out (by kernel_rfl)) (fun _ _ _ h => h) (Or.inl ⟨by rfl, ?_⟩) ?_ ?_
        rotate_left; (focus (intro w'; go_simp; with_reducible rfl)); rotate_left; (focus (simp only [Act.put, List.setIfInBounds_toArray, List.set_cons_zero, List.set_cons_succ, i64_w, i32_w, IntKind.wrap_u8, IntKind.wrap_u16, IntKind.wrap_u32]; rfl))
        refine done_ (done_of HT_.out (by kernel_rfl)) ?_
        try go_wp2
        go_ret
        exact ⟨by first | rfl | (simp [errW_none, errW_some] <;> rfl) | (simp [*, errW_none, errW_some] <;> rfl), hbT HB.out⟩
      · rw [if_neg c10] at H
        have c10b0 : (a0_0 == t123 && (a0_1 == t124 && (a0_2.toList == t125.toList && (a0_3 == t126)))) = false := by simpa using c10
        (try (have c10b5 := c10; simp only [Bool.and_eq_true, beq_iff_eq, Bool.not_eq_true', Bool.not_eq_true, bne_iff_ne, decide_eq_true_eq] at c10b5; replace c10b5 := Aside0.mk c10b5))
        (try (have c10b1 : decide (a0_0 = t123 && (a0_1 == t124 && (a0_2.toList == t125.toList && (a0_3 == t126)))) = false := by simpa using c10))
        (try (have c10b2 : (a0_0 == t123 && (a0_1 == t124 && (a0_2.toList == t125.toList && (a0_3 == t126)))) = false := by simpa using c10))
        (try (have c10b3 : ¬ (a0_0 = t123 && (a0_1 == t124 && (a0_2.toList == t125.toList && (a0_3 == t126)))) := by simpa using c10))
        clear c10
        obtain rfl := Option.some.inj H
        go_enter Tryz.func17, Tryz.ntmps17
        try go_wp2_with (first | ((with_reducible refine gate_dst (N := 1) rfl ?_); (try (refine gate_guard (by rfl) ?_; dsimp only)); refine box_event ?hg (N := 1) ?hd (cs := #[.int .i64 a0_0, .int .i64 a0_1, .string a0_2, .bool a0_3]) (t := 43) ?hr ?_; (case hd => rfl); (case hg => rfl); (case hr => first | (go_simp; done) | (go_simp; rfl)); intro gb118 hg w15 hbox hb; have BK118 := Aside0.mk hbox; have GW118 := geA hg HB; have GE118 := geA hg HB; replace HB := bsA HB hb; clear hb hbox hg; have hcz16_0 : w15.cell? ⟨gb118, 0, none⟩ = some (.int .i64 a0_0) := (blk_cell BK118.out 0).trans rfl; have hcz16_1 : w15.cell? ⟨gb118, 1, none⟩ = some (.int .i64 a0_1) := (blk_cell BK118.out 1).trans rfl; have hcz16_2 : w15.cell? ⟨gb118, 2, none⟩ = some (.string a0_2) := (blk_cell BK118.out 2).trans rfl; have hcz16_3 : w15.cell? ⟨gb118, 3, none⟩ = some (.bool a0_3) := (blk_cell BK118.out 3).trans rfl; have hfz16_0 := blk_frozen BK118.out 0; have hfz16_1 := blk_frozen BK118.out 1; have hfz16_2 := blk_frozen BK118.out 2; have hfz16_3 := blk_frozen BK118.out 3))
        replace BK118 := bdA BK118; replace HB := Aside0.mk (below_drew1 HB.out)
        refine start_ (n := 12) (S := fun w' => w'.cell? ⟨gb118, 0, none⟩ = some (.int .i64 a0_0) ∧ w'.cell? ⟨gb118, 1, none⟩ = some (.int .i64 a0_1) ∧ w'.cell? ⟨gb118, 2, none⟩ = some (.string a0_2) ∧ w'.cell? ⟨gb118, 3, none⟩ = some (.bool a0_3)) (ds := []) #[false, false, false, false, false, false, false, false, false, false, false, false] (by kernel_rfl) rfl rfl ⟨(blk_cell BK118.out 0).trans rfl, (blk_cell BK118.out 1).trans rfl, (blk_cell BK118.out 2).trans rfl, (blk_cell BK118.out 3).trans rfl⟩ (fun hHeld => ?_); refine with_tabW value_Valid.tab5 value_Valid.bits5 (fun HT_ HW_ => ?_)
        generalize w15.drew = w17 at BK118 HB hHeld ⊢
        refine pure_ (i := 1) (N := some 15) (v := ?_) (a' := ?_) #[false, true, false, false, false, false, false, false, false, false, false, false] rfl rfl (any_of HT_.out (by kernel_rfl)) (fun _ _ _ h => h) (Or.inl ⟨by rfl, ?_⟩) ?_ ?_
        rotate_left; (focus (intro w'; go_simp; with_reducible rfl)); rotate_left; (focus (simp only [Act.put, List.setIfInBounds_toArray, List.set_cons_zero, List.set_cons_succ, i64_w, i32_w, IntKind.wrap_u8, IntKind.wrap_u16, IntKind.wrap_u32]; rfl))
        refine take_ (i := 0) (N := some 14) (v := ?_) (a' := ?_) #[true, true, false, false, false, false, false, false, false, false, false, false] rfl rfl (take_ofW HT_.out HW_.out (by kernel_rfl)) (fun _ _ _ h => h) (Or.inl ⟨by rfl, ?_⟩) hHeld ?_ ?_
        rotate_left; (focus (rintro w' ⟨s0, s1, s2, s3⟩; go_simp; with_reducible rfl)); rotate_left; (focus (simp only [Act.put, List.setIfInBounds_toArray, List.set_cons_zero, List.set_cons_succ, i64_w, i32_w, IntKind.wrap_u8, IntKind.wrap_u16, IntKind.wrap_u32]; rfl))
        refine take_ (i := 2) (N := some 16) (v := ?_) (a' := ?_) #[true, true, true, false, false, false, false, false, false, false, false, false] rfl rfl (take_ofW HT_.out HW_.out (by kernel_rfl)) (fun _ _ _ h => h) (Or.inl ⟨by rfl, ?_⟩) hHeld ?_ ?_
        rotate_left; (focus (rintro w' ⟨s0, s1, s2, s3⟩; go_simp; with_reducible rfl)); rotate_left; (focus (simp only [Act.put, List.setIfInBounds_toArray, List.set_cons_zero, List.set_cons_succ, i64_w, i32_w, IntKind.wrap_u8, IntKind.wrap_u16, IntKind.wrap_u32]; rfl))
        refine one_ (i := 3) (N := some 17) #[true, true, true, true, false, false, false, false, false, false, false, false] rfl rfl (one_of HT_.out (by kernel_rfl)) (by decide) (fun K hK => ?_)
        refine goes_ Tryz.func36 (by kernel_rfl) rfl #[.string a0_2] (by rfl) rfl rfl (by (try simp only [List.map_toArray, List.map_cons, List.map_nil]); first | done | rfl | (simp only [List.length_drop, List.length_take]; rfl)) ?_
        with_reducible refine (value_text.calls a0_2 t123 t124 t125 t126 _ A9.out).mono ?_
        rintro e w18 ⟨rfl, hb⟩
        refine ⟨_, rfl, ?_⟩
        replace BK118 := bbA BK118 hb; replace HB := bsA HB hb
        (try clear hb); (try clear hb2); (try clear hk); (try clear hi)
        refine hK.out _ _ ⟨(blk_cell BK118.out 0).trans rfl, (blk_cell BK118.out 1).trans rfl, (blk_cell BK118.out 2).trans rfl, (blk_cell BK118.out 3).trans rfl⟩ (fun hHeld => ?_)
        clear hK K
        refine norm_ (a' := ?_) ?_ ?_
        rotate_left
        · show Act.put _ (some 17) _ = _
          simp only [Act.put, List.setIfInBounds_toArray, List.set_cons_zero, List.set_cons_succ, i64_w, i32_w, IntKind.wrap_u8, IntKind.wrap_u16, IntKind.wrap_u32]
          rfl
        refine pure_ (i := 4) (N := some 18) (v := ?_) (a' := ?_) #[true, true, true, true, true, false, false, false, false, false, false, false] rfl rfl (any_of HT_.out (by kernel_rfl)) (fun _ _ _ h => h) (Or.inl ⟨by rfl, ?_⟩) ?_ ?_
        rotate_left; (focus (intro w'; go_simp; with_reducible rfl)); rotate_left; (focus (simp only [Act.put, List.setIfInBounds_toArray, List.set_cons_zero, List.set_cons_succ, i64_w, i32_w, IntKind.wrap_u8, IntKind.wrap_u16, IntKind.wrap_u32]; rfl))
        refine pure_ (i := 5) (N := some 19) (v := ?_) (a' := ?_) #[true, true, true, true, true, true, false, false, false, false, false, false] rfl rfl (any_of HT_.out (by kernel_rfl)) (fun _ _ _ h => h) (Or.inl ⟨by rfl, ?_⟩) ?_ ?_
        rotate_left; (focus (intro w'; go_simp; with_reducible rfl)); rotate_left; (focus (simp only [Act.put, List.setIfInBounds_toArray, List.set_cons_zero, List.set_cons_succ, i64_w, i32_w, IntKind.wrap_u8, IntKind.wrap_u16, IntKind.wrap_u32]; rfl))
        refine pure_ (i := 6) (N := some 20) (v := undef) (a' := ?_) #[true, true, true, true, true, true, true, false, false, false, false, false] rfl rfl (any_of HT_.out (by kernel_rfl)) (fun _ _ _ h => h) (Or.inr ⟨by rfl, rfl⟩) ?_ ?_
        rotate_left
        · simp only [Act.put, List.setIfInBounds_toArray, List.set_cons_zero, List.set_cons_succ, i64_w, i32_w, IntKind.wrap_u8, IntKind.wrap_u16, IntKind.wrap_u32]
          rfl
        refine pure_ (i := 7) (N := some 21) (v := undef) (a' := ?_) #[true, true, true, true, true, true, true, true, false, false, false, false] rfl rfl (any_of HT_.out (by kernel_rfl)) (fun _ _ _ h => h) (Or.inr ⟨by rfl, rfl⟩) ?_ ?_
        rotate_left
        · simp only [Act.put, List.setIfInBounds_toArray, List.set_cons_zero, List.set_cons_succ, i64_w, i32_w, IntKind.wrap_u8, IntKind.wrap_u16, IntKind.wrap_u32]
          rfl
        refine pure_ (i := 8) (N := some 22) (v := undef) (a' := ?_) #[true, true, true, true, true, true, true, true, true, false, false, false] rfl rfl (any_of HT_.out (by kernel_rfl)) (fun _ _ _ h => h) (Or.inr ⟨by rfl, rfl⟩) ?_ ?_
        rotate_left
        · simp only [Act.put, List.setIfInBounds_toArray, List.set_cons_zero, List.set_cons_succ, i64_w, i32_w, IntKind.wrap_u8, IntKind.wrap_u16, IntKind.wrap_u32]
          rfl
        refine pure_ (i := 9) (N := some 23) (v := undef) (a' := ?_) #[true, true, true, true, true, true, true, true, true, true, false, false] rfl rfl (any_of HT_.out (by kernel_rfl)) (fun _ _ _ h => h) (Or.inr ⟨by rfl, rfl⟩) ?_ ?_
        rotate_left
        · simp only [Act.put, List.setIfInBounds_toArray, List.set_cons_zero, List.set_cons_succ, i64_w, i32_w, IntKind.wrap_u8, IntKind.wrap_u16, IntKind.wrap_u32]
          rfl
        refine pure_ (i := 10) (N := some 24) (v := ?_) (a' := ?_) #[true, true, true, true, true, true, true, true, true, true, true, false] rfl rfl (any_of HT_.out (by kernel_rfl)) (fun _ _ _ h => h) (Or.inl ⟨by rfl, ?_⟩) ?_ ?_
        rotate_left; (focus (intro w'; go_simp; with_reducible rfl)); rotate_left; (focus (simp only [Act.put, List.setIfInBounds_toArray, List.set_cons_zero, List.set_cons_succ, i64_w, i32_w, IntKind.wrap_u8, IntKind.wrap_u16, IntKind.wrap_u32]; rfl))
        refine pure_ (i := 11) (N := some 2) (v := ?_) (a' := ?_) #[true, true, true, true, true, true, true, true, true, true, true, true] rfl rfl (any_of HT_.out (by kernel_rfl)) (fun _ _ _ h => h) (Or.inl ⟨by rfl, ?_⟩) ?_ ?_
        rotate_left; (focus (intro w'; go_simp; with_reducible rfl)); rotate_left; (focus (simp only [Act.put, List.setIfInBounds_toArray, List.set_cons_zero, List.set_cons_succ, i64_w, i32_w, IntKind.wrap_u8, IntKind.wrap_u16, IntKind.wrap_u32]; rfl))
        refine done_ (done_of HT_.out (by kernel_rfl)) ?_
        try go_wp2
        go_ret
        exact ⟨by first | rfl | (simp [errW_none, errW_some] <;> rfl) | (simp [*, errW_none, errW_some] <;> rfl), hbT HB.out⟩
    · rw [if_neg c8] at H
      have c8b0 : (a0_0 == 2) = false := beq_eq_false_iff_ne.mpr c8
      have c8b1 : (a0_0 != 2) = true := bne_iff_ne.mpr c8
      by_cases c19 : a0_0 = 3
      · rw [if_pos c19] at H
        have c19b0 : (a0_0 == 3) = true := beq_iff_eq.mpr c19
        have c19b1 : (a0_0 != 3) = false := bne_eq_false_iff_eq.mpr c19
        clear c19
        replace H := Option.bind_eq_some_iff.mp H
        obtain ⟨⟨t127, t128, t129, t130⟩, A200, H⟩ := H
        replace H : (some (a0_0 == t127 && (a0_1 == t128 && (a0_2.toList == t129.toList && (a0_3 == t130))))) = some r := H
        have A20 := Aside0.mk A200
        clear A200
        obtain rfl := Option.some.inj H
        go_enter Tryz.func17, Tryz.ntmps17
        try go_wp2_with (first | ((with_reducible refine gate_dst (N := 1) rfl ?_); (try (refine gate_guard (by rfl) ?_; dsimp only)); refine box_event ?hg (N := 1) ?hd (cs := #[.int .i64 a0_0, .int .i64 a0_1, .string a0_2, .bool a0_3]) (t := 43) ?hr ?_; (case hd => rfl); (case hg => rfl); (case hr => first | (go_simp; done) | (go_simp; rfl)); intro gb118 hg w21 hbox hb; have BK118 := Aside0.mk hbox; have GW118 := geA hg HB; have GE118 := geA hg HB; replace HB := bsA HB hb; clear hb hbox hg; have hcz22_0 : w21.cell? ⟨gb118, 0, none⟩ = some (.int .i64 a0_0) := (blk_cell BK118.out 0).trans rfl; have hcz22_1 : w21.cell? ⟨gb118, 1, none⟩ = some (.int .i64 a0_1) := (blk_cell BK118.out 1).trans rfl; have hcz22_2 : w21.cell? ⟨gb118, 2, none⟩ = some (.string a0_2) := (blk_cell BK118.out 2).trans rfl; have hcz22_3 : w21.cell? ⟨gb118, 3, none⟩ = some (.bool a0_3) := (blk_cell BK118.out 3).trans rfl; have hfz22_0 := blk_frozen BK118.out 0; have hfz22_1 := blk_frozen BK118.out 1; have hfz22_2 := blk_frozen BK118.out 2; have hfz22_3 := blk_frozen BK118.out 3))
        replace BK118 := bdA BK118; replace HB := Aside0.mk (below_drew1 HB.out)
        refine start_ (n := 6) (S := fun w' => w'.cell? ⟨gb118, 0, none⟩ = some (.int .i64 a0_0) ∧ w'.cell? ⟨gb118, 1, none⟩ = some (.int .i64 a0_1) ∧ w'.cell? ⟨gb118, 2, none⟩ = some (.string a0_2) ∧ w'.cell? ⟨gb118, 3, none⟩ = some (.bool a0_3)) (ds := []) #[false, false, false, false, false, false] (by kernel_rfl) rfl rfl ⟨(blk_cell BK118.out 0).trans rfl, (blk_cell BK118.out 1).trans rfl, (blk_cell BK118.out 2).trans rfl, (blk_cell BK118.out 3).trans rfl⟩ (fun hHeld => ?_)
        generalize w21.drew = w23 at BK118 HB hHeld ⊢
        refine pure_ (i := 1) (N := some 28) (v := ?_) (a' := ?_) #[false, true, false, false, false, false] rfl rfl (by kernel_rfl) (fun _ _ _ h => h) (Or.inl ⟨by rfl, ?_⟩) ?_ ?_
        rotate_left; (focus (intro w'; go_simp; with_reducible rfl)); rotate_left; (focus (simp only [Act.put, List.setIfInBounds_toArray, List.set_cons_zero, List.set_cons_succ, i64_w, i32_w, IntKind.wrap_u8, IntKind.wrap_u16, IntKind.wrap_u32]; rfl))
        refine take_ (i := 0) (N := some 27) (v := ?_) (a' := ?_) #[true, true, false, false, false, false] rfl rfl (by kernel_rfl) (fun _ _ _ h => h) (Or.inl ⟨by rfl, ?_⟩) hHeld ?_ ?_
        rotate_left; (focus (rintro w' ⟨s0, s1, s2, s3⟩; go_simp; with_reducible rfl)); rotate_left; (focus (simp only [Act.put, List.setIfInBounds_toArray, List.set_cons_zero, List.set_cons_succ, i64_w, i32_w, IntKind.wrap_u8, IntKind.wrap_u16, IntKind.wrap_u32]; rfl))
        refine take_ (i := 2) (N := some 29) (v := ?_) (a' := ?_) #[true, true, true, false, false, false] rfl rfl (by kernel_rfl) (fun _ _ _ h => h) (Or.inl ⟨by rfl, ?_⟩) hHeld ?_ ?_
        rotate_left; (focus (rintro w' ⟨s0, s1, s2, s3⟩; go_simp; with_reducible rfl)); rotate_left; (focus (simp only [Act.put, List.setIfInBounds_toArray, List.set_cons_zero, List.set_cons_succ, i64_w, i32_w, IntKind.wrap_u8, IntKind.wrap_u16, IntKind.wrap_u32]; rfl))
        refine one_ (i := 3) (N := some 30) #[true, true, true, true, false, false] rfl rfl (by kernel_rfl) (by decide) (fun K hK => ?_)
        refine goes_ Tryz.func37 (by kernel_rfl) rfl #[.bool a0_3] (by rfl) rfl rfl (by (try simp only [List.map_toArray, List.map_cons, List.map_nil]); first | done | rfl | (simp only [List.length_drop, List.length_take]; rfl)) ?_
        with_reducible refine (value_truth.calls a0_3 t127 t128 t129 t130 _ A20.out).mono ?_
        rintro e w24 ⟨rfl, hb⟩
        refine ⟨_, rfl, ?_⟩
        replace BK118 := bbA BK118 hb; replace HB := bsA HB hb
        (try clear hb); (try clear hb2); (try clear hk); (try clear hi)
        refine hK.out _ _ ⟨(blk_cell BK118.out 0).trans rfl, (blk_cell BK118.out 1).trans rfl, (blk_cell BK118.out 2).trans rfl, (blk_cell BK118.out 3).trans rfl⟩ (fun hHeld => ?_)
        clear hK K
        refine norm_ (a' := ?_) ?_ ?_
        rotate_left
        · show Act.put _ (some 30) _ = _
          simp only [Act.put, List.setIfInBounds_toArray, List.set_cons_zero, List.set_cons_succ, i64_w, i32_w, IntKind.wrap_u8, IntKind.wrap_u16, IntKind.wrap_u32]
          rfl
        refine pure_ (i := 4) (N := some 31) (v := ?_) (a' := ?_) #[true, true, true, true, true, false] rfl rfl (by kernel_rfl) (fun _ _ _ h => h) (Or.inl ⟨by rfl, ?_⟩) ?_ ?_
        rotate_left; (focus (intro w'; go_simp; with_reducible rfl)); rotate_left; (focus (simp only [Act.put, List.setIfInBounds_toArray, List.set_cons_zero, List.set_cons_succ, i64_w, i32_w, IntKind.wrap_u8, IntKind.wrap_u16, IntKind.wrap_u32]; rfl))
        refine pure_ (i := 5) (N := some 2) (v := ?_) (a' := ?_) #[true, true, true, true, true, true] rfl rfl (by kernel_rfl) (fun _ _ _ h => h) (Or.inl ⟨by rfl, ?_⟩) ?_ ?_
        rotate_left; (focus (intro w'; go_simp; with_reducible rfl)); rotate_left; (focus (simp only [Act.put, List.setIfInBounds_toArray, List.set_cons_zero, List.set_cons_succ, i64_w, i32_w, IntKind.wrap_u8, IntKind.wrap_u16, IntKind.wrap_u32]; rfl))
        refine done_ (by kernel_rfl) ?_
        try go_wp2
        go_ret
        exact ⟨by first | rfl | (simp [errW_none, errW_some] <;> rfl) | (simp [*, errW_none, errW_some] <;> rfl), hbT HB.out⟩
      · rw [if_neg c19] at H
        have c19b0 : (a0_0 == 3) = false := beq_eq_false_iff_ne.mpr c19
        have c19b1 : (a0_0 != 3) = true := bne_iff_ne.mpr c19
        obtain rfl := Option.some.inj H
        go_enter Tryz.func17, Tryz.ntmps17
        go_wp2_with (first | ((with_reducible refine gate_dst (N := 1) rfl ?_); (try (refine gate_guard (by rfl) ?_; dsimp only)); refine box_event ?hg (N := 1) ?hd (cs := #[.int .i64 a0_0, .int .i64 a0_1, .string a0_2, .bool a0_3]) (t := 43) ?hr ?_; (case hd => rfl); (case hg => rfl); (case hr => first | (go_simp; done) | (go_simp; rfl)); intro gb118 hg w25 hbox hb; have BK118 := Aside0.mk hbox; have GW118 := geA hg HB; have GE118 := geA hg HB; replace HB := bsA HB hb; clear hb hbox hg; have hcz26_0 : w25.cell? ⟨gb118, 0, none⟩ = some (.int .i64 a0_0) := (blk_cell BK118.out 0).trans rfl; have hcz26_1 : w25.cell? ⟨gb118, 1, none⟩ = some (.int .i64 a0_1) := (blk_cell BK118.out 1).trans rfl; have hcz26_2 : w25.cell? ⟨gb118, 2, none⟩ = some (.string a0_2) := (blk_cell BK118.out 2).trans rfl; have hcz26_3 : w25.cell? ⟨gb118, 3, none⟩ = some (.bool a0_3) := (blk_cell BK118.out 3).trans rfl; have hfz26_0 := blk_frozen BK118.out 0; have hfz26_1 := blk_frozen BK118.out 1; have hfz26_2 := blk_frozen BK118.out 2; have hfz26_3 := blk_frozen BK118.out 3))
        (try any_goals (exfalso; first | (have h_ := c10b5.out; contradiction)))
        go_ret
        exact ⟨by first | rfl | (simp [errW_none, errW_some] <;> rfl) | (simp [*, errW_none, errW_some] <;> rfl), hbT HB.out⟩

end Go.Proofs.YtpkbhfdfgapmlaaGreatDoor.Pr
end

/-! ## text Prx13 -/
section
namespace Go.Proofs.YtpkbhfdfgapmlaaGreatDoor.Pr
open Go.RowKit Go.Proofs.YtpkbhfdfgapmlaaGreatDoorW.PrintWords Go.Proofs.YtpkbhfdfgapmlaaGreatDoorW.PrintLast Go.Proofs.YtpkbhfdfgapmlaaGreatDoorW.PrintMore
attribute [local go_sem] max2_int min2_int max_two min_two max_three min_three max_four min_four   -- for this text's walks alone
attribute [local go_sem high] Go.Proofs.YtpkbhfdfgapmlaaGreatDoor.isSome_setCell
set_option maxRecDepth 100000
set_option linter.unusedVariables false
set_option linter.unusedSimpArgs false

attribute [local go_sem high] eqA43
/-! ### refrainlaw4_sameEvent: function 12 -/
mutual
def refrainlaw4_sameEvent.j0 : Nat → Bool → ByteArray → Int → List (S43) → ByteArray → Int → List (S43) → Option (Bool)
  | 0, _, _, _, _, _, _, _ => none
  | k + 1, x26, x304000, x304001, x304002, x305000, x305001, x305002 => if x26 = true then (some false) else (refrainlaw4_sameEvent.l0 k 0 x304000 x304001 x304002 x305000 x305001 x305002)
def refrainlaw4_sameEvent.l0 : Nat → Int → ByteArray → Int → List (S43) → ByteArray → Int → List (S43) → Option (Bool)
  | 0, _, _, _, _, _, _, _ => none
  | k + 1, x5, x304000, x304001, x304002, x305000, x305001, x305002 => if x5 < (x304002.length : Int) then (if 0 ≤ x5 then (if x5 < (x305002.length : Int) then (if (!(((rd_T43 x304002 x5).f0) == ((rd_T43 x305002 x5).f0)) || (!(((rd_T43 x304002 x5).f1) == ((rd_T43 x305002 x5).f1)) || (!((((rd_T43 x304002 x5).f2).toList) == (((rd_T43 x305002 x5).f2).toList)) || (!(((rd_T43 x304002 x5).f3) == ((rd_T43 x305002 x5).f3)))))) = true then (some false) else (refrainlaw4_sameEvent.l0 k (wrap64 (x5 + 1)) x304000 x304001 x304002 x305000 x305001 x305002)) else (none)) else (none)) else (some true)
end
def refrainlaw4_sameEvent.f (k : Nat) (a0_0 : ByteArray) (a0_1 : Int) (l0_2 : List (S43)) (a1_0 : ByteArray) (a1_1 : Int) (l1_2 : List (S43)) : Option (Bool) := if a0_0.toList = a1_0.toList then (if a0_1 = a1_1 then (refrainlaw4_sameEvent.j0 k ((l0_2.length : Int) != (l1_2.length : Int)) a0_0 a0_1 l0_2 a1_0 a1_1 l1_2) else (refrainlaw4_sameEvent.j0 k true a0_0 a0_1 l0_2 a1_0 a1_1 l1_2)) else (refrainlaw4_sameEvent.j0 k true a0_0 a0_1 l0_2 a1_0 a1_1 l1_2)
set_option maxRecDepth 100000 in
theorem refrainlaw4_sameEvent.j0_zero : ∀ y0 y1 y2 y3 y4 y5 y6, refrainlaw4_sameEvent.j0 0 y0 y1 y2 y3 y4 y5 y6 = none := fun _ _ _ _ _ _ _ => rfl
set_option maxRecDepth 100000 in
theorem refrainlaw4_sameEvent.l0_zero : ∀ y0 y1 y2 y3 y4 y5 y6, refrainlaw4_sameEvent.l0 0 y0 y1 y2 y3 y4 y5 y6 = none := fun _ _ _ _ _ _ _ => rfl
set_option maxRecDepth 100000 in
theorem refrainlaw4_sameEvent.mono_l : ∀ k, (∀ y0 y1 y2 y3 y4 y5 y6, LeO (refrainlaw4_sameEvent.j0 k y0 y1 y2 y3 y4 y5 y6) (refrainlaw4_sameEvent.j0 (k + 1) y0 y1 y2 y3 y4 y5 y6)) ∧ (∀ y0 y1 y2 y3 y4 y5 y6, LeO (refrainlaw4_sameEvent.l0 k y0 y1 y2 y3 y4 y5 y6) (refrainlaw4_sameEvent.l0 (k + 1) y0 y1 y2 y3 y4 y5 y6))
  | 0 => ⟨fun _ _ _ _ _ _ _ r h => by (unfold refrainlaw4_sameEvent.j0 at h; cases h), fun _ _ _ _ _ _ _ r h => by (unfold refrainlaw4_sameEvent.l0 at h; cases h)⟩
  | k + 1 => by
    obtain ⟨ih0, ih1⟩ := refrainlaw4_sameEvent.mono_l k
    refine ⟨?_, ?_⟩
    · intro y0 y1 y2 y3 y4 y5 y6
      unfold refrainlaw4_sameEvent.j0
      repeat' first
      | (with_reducible exact ih0 _ _ _ _ _ _ _)
      | (with_reducible exact ih1 _ _ _ _ _ _ _)
      | (with_reducible exact LeO.refl _)
      | (with_reducible exact LeO.none _)
      | (with_reducible refine LeO.ite ?_ ?_)
      | (with_reducible refine LeO.bind ?_ (fun _ => ?_))
      | exact ih0 _ _ _ _ _ _ _
      | exact ih1 _ _ _ _ _ _ _
      | exact LeO.none _
      | refine LeO.ite ?_ ?_
      | refine LeO.bind ?_ (fun _ => ?_)
    · intro y0 y1 y2 y3 y4 y5 y6
      unfold refrainlaw4_sameEvent.l0
      repeat' first
      | (with_reducible exact ih0 _ _ _ _ _ _ _)
      | (with_reducible exact ih1 _ _ _ _ _ _ _)
      | (with_reducible exact LeO.refl _)
      | (with_reducible exact LeO.none _)
      | (with_reducible refine LeO.ite ?_ ?_)
      | (with_reducible refine LeO.bind ?_ (fun _ => ?_))
      | exact ih0 _ _ _ _ _ _ _
      | exact ih1 _ _ _ _ _ _ _
      | exact LeO.none _
      | refine LeO.ite ?_ ?_
      | refine LeO.bind ?_ (fun _ => ?_)
set_option maxRecDepth 100000 in
theorem refrainlaw4_sameEvent.mono : ∀ a0 a1 a2 a3 a4 a5 k, LeO (refrainlaw4_sameEvent.f k a0 a1 a2 a3 a4 a5) (refrainlaw4_sameEvent.f (k + 1) a0 a1 a2 a3 a4 a5) := by
  intro a0 a1 a2 a3 a4 a5 k
  obtain ⟨ih0, ih1⟩ := refrainlaw4_sameEvent.mono_l k
  unfold refrainlaw4_sameEvent.f
  repeat' first
      | (with_reducible exact ih0 _ _ _ _ _ _ _)
      | (with_reducible exact ih1 _ _ _ _ _ _ _)
      | (with_reducible exact LeO.refl _)
      | (with_reducible exact LeO.none _)
      | (with_reducible refine LeO.ite ?_ ?_)
      | (with_reducible refine LeO.bind ?_ (fun _ => ?_))
      | exact ih0 _ _ _ _ _ _ _
      | exact ih1 _ _ _ _ _ _ _
      | exact LeO.none _
      | refine LeO.ite ?_ ?_
      | refine LeO.bind ?_ (fun _ => ?_)
set_option maxHeartbeats 8000000 in
set_option maxRecDepth 100000 in
theorem refrainlaw4_sameEvent.calls (k : Nat) (a0_0 : ByteArray) (a0_1 : Int) (A0_2 : Option Addr) (c0_2 : Nat) (l0_2 : List (S43)) (a1_0 : ByteArray) (a1_1 : Int) (A1_2 : Option Addr) (c1_2 : Nat) (l1_2 : List (S43)) (r : Bool) (w : World) (hr0_2 : Kd.C k43 w A0_2 l0_2.length l0_2) (hc0_2 : l0_2.length ≤ c0_2) (hr1_2 : Kd.C k43 w A1_2 l1_2.length l1_2) (hc1_2 : l1_2.length ≤ c1_2) (h : refrainlaw4_sameEvent.f k a0_0 a0_1 l0_2 a1_0 a1_1 l1_2 = some r) :
    Calls Tryz.prog 12 #[.agg #[.string a0_0, .int .i64 a0_1, .slice A0_2 l0_2.length c0_2], .agg #[.string a1_0, .int .i64 a1_1, .slice A1_2 l1_2.length c1_2]] w fun e w' => e = .returned (.bool r) ∧ Below w.heap.size w w' := by
  have hu35 := Tryz.underlying35
  have hu43 := Tryz.underlying43
  have HR0_2 := Aside0.mk hr0_2
  have HC0_2 := Aside0.mk hc0_2
  clear hr0_2 hc0_2
  have HR1_2 := Aside0.mk hr1_2
  have HC1_2 := Aside0.mk hc1_2
  clear hr1_2 hc1_2
  have HB := Aside0.mk (Below.refl w.heap.size w)
  have H : (if a0_0.toList = a1_0.toList then (if a0_1 = a1_1 then (refrainlaw4_sameEvent.j0 k ((l0_2.length : Int) != (l1_2.length : Int)) a0_0 a0_1 l0_2 a1_0 a1_1 l1_2) else (refrainlaw4_sameEvent.j0 k true a0_0 a0_1 l0_2 a1_0 a1_1 l1_2)) else (refrainlaw4_sameEvent.j0 k true a0_0 a0_1 l0_2 a1_0 a1_1 l1_2)) = some r := h
  clear h
  have HC3 := Aside0.mk H
  clear H
  go_enter Tryz.func12, Tryz.ntmps12
  go_upto_region 1 with (first | ((with_reducible refine gate_dst (N := 2) rfl ?_); (try (refine gate_guard (by rfl) ?_; dsimp only)); refine box_event ?hg (N := 2) ?hd (cs := #[.string a0_0, .int .i64 a0_1, .slice A0_2 l0_2.length c0_2]) (t := 35) ?hr ?_; (case hd => rfl); (case hg => rfl); (case hr => first | (go_simp; done) | (go_simp; rfl)); intro gb303 hg w4 hbox hb; have BK303 := Aside0.mk hbox; have GW303 := geA hg HB; have GE303 := geA hg HB; replace HB := bsA HB hb; clear hb hbox hg) | ((with_reducible refine gate_dst (N := 3) rfl ?_); (try (refine gate_guard (by rfl) ?_; dsimp only)); refine box_event ?hg (N := 3) ?hd (cs := #[.string a1_0, .int .i64 a1_1, .slice A1_2 l1_2.length c1_2]) (t := 35) ?hr ?_; (case hd => rfl); (case hg => rfl); (case hr => first | (go_simp; done) | (go_simp; rfl)); intro gb304 hg w5 hbox hb; have BK304 := Aside0.mk hbox; have GW304 := geA hg HB; have GE304 := geA hg HB; have NB303_304 := neA hg BK303; have NB304_303 := neB hg BK303; replace BK303 := bbA BK303 hb; replace HB := bsA HB hb; clear hb hbox hg))
  repeat (go_quiet (first | ((with_reducible refine gate_dst (N := 2) rfl ?_); (try (refine gate_guard (by rfl) ?_; dsimp only)); refine box_event ?hg (N := 2) ?hd (cs := #[.string a0_0, .int .i64 a0_1, .slice A0_2 l0_2.length c0_2]) (t := 35) ?hr ?_; (case hd => rfl); (case hg => rfl); (case hr => first | (go_simp; done) | (go_simp; rfl)); intro gb303 hg w4 hbox hb; have BK303 := Aside0.mk hbox; have GW303 := geA hg HB; have GE303 := geA hg HB; replace HB := bsA HB hb; clear hb hbox hg) | ((with_reducible refine gate_dst (N := 3) rfl ?_); (try (refine gate_guard (by rfl) ?_; dsimp only)); refine box_event ?hg (N := 3) ?hd (cs := #[.string a1_0, .int .i64 a1_1, .slice A1_2 l1_2.length c1_2]) (t := 35) ?hr ?_; (case hd => rfl); (case hg => rfl); (case hr => first | (go_simp; done) | (go_simp; rfl)); intro gb304 hg w5 hbox hb; have BK304 := Aside0.mk hbox; have GW304 := geA hg HB; have GE304 := geA hg HB; have NB303_304 := neA hg BK303; have NB304_303 := neB hg BK303; replace BK303 := bbA BK303 hb; replace HB := bsA HB hb; clear hb hbox hg)); go_upto_region 1 with (first | ((with_reducible refine gate_dst (N := 2) rfl ?_); (try (refine gate_guard (by rfl) ?_; dsimp only)); refine box_event ?hg (N := 2) ?hd (cs := #[.string a0_0, .int .i64 a0_1, .slice A0_2 l0_2.length c0_2]) (t := 35) ?hr ?_; (case hd => rfl); (case hg => rfl); (case hr => first | (go_simp; done) | (go_simp; rfl)); intro gb303 hg w4 hbox hb; have BK303 := Aside0.mk hbox; have GW303 := geA hg HB; have GE303 := geA hg HB; replace HB := bsA HB hb; clear hb hbox hg) | ((with_reducible refine gate_dst (N := 3) rfl ?_); (try (refine gate_guard (by rfl) ?_; dsimp only)); refine box_event ?hg (N := 3) ?hd (cs := #[.string a1_0, .int .i64 a1_1, .slice A1_2 l1_2.length c1_2]) (t := 35) ?hr ?_; (case hd => rfl); (case hg => rfl); (case hr => first | (go_simp; done) | (go_simp; rfl)); intro gb304 hg w5 hbox hb; have BK304 := Aside0.mk hbox; have GW304 := geA hg HB; have GE304 := geA hg HB; have NB303_304 := neA hg BK303; have NB304_303 := neB hg BK303; replace BK303 := bbA BK303 hb; replace HB := bsA HB hb; clear hb hbox hg)))
  (try simp only [Act.put, List.setIfInBounds_toArray, List.set_cons_zero, List.set_cons_succ])
  go_cut [26] (fun v26 wc => ∃ (kq : Nat) (x26_2 : Bool), v26 = .bool x26_2 ∧ Aside0 (refrainlaw4_sameEvent.j0 kq x26_2 a0_0 a0_1 l0_2 a1_0 a1_1 l1_2 = some r) ∧ Aside0 (kq ≤ k) ∧ Aside0 (wc.heap[gb303]? = some (.cells #[.string a0_0, .int .i64 a0_1, (.slice A0_2 l0_2.length c0_2)] 35 (0, 0))) ∧ Aside0 (wc.heap[gb304]? = some (.cells #[.string a1_0, .int .i64 a1_1, (.slice A1_2 l1_2.length c1_2)] 35 (0, 0))) ∧ Aside0 (Below w.heap.size w wc))
  case first =>
    have H := HC3.out
    clear HC3
    by_cases c6 : a0_0.toList = a1_0.toList
    · rw [if_pos c6] at H
      have c6b0 : (a0_0.toList == a1_0.toList) = true := beq_iff_eq.mpr c6
      have c6b1 : (a0_0.toList != a1_0.toList) = false := bne_eq_false_iff_eq.mpr c6
      clear c6
      (first | rw [c6b0] | (simp only [i64_w, i32_w, IntKind.wrap_u8, IntKind.wrap_u16, IntKind.wrap_u32]; rw [c6b0]) | skip)
      by_cases c7 : a0_1 = a1_1
      · rw [if_pos c7] at H
        have c7b0 : (a0_1 == a1_1) = true := beq_iff_eq.mpr c7
        have c7b1 : (a0_1 != a1_1) = false := bne_eq_false_iff_eq.mpr c7
        clear c7
        have H' := Aside0.mk H
        clear H; have hnb8 := NB303_304.out
        have hnc8 := NB304_303.out; have hcz9_0 : w5.cell? ⟨gb303, 0, none⟩ = some (.string a0_0) := (blk_cell BK303.out 0).trans rfl; have hcz9_1 : w5.cell? ⟨gb303, 1, none⟩ = some (.int .i64 a0_1) := (blk_cell BK303.out 1).trans rfl; have hcz9_2 : w5.cell? ⟨gb303, 2, none⟩ = some (.slice A0_2 l0_2.length c0_2) := (blk_cell BK303.out 2).trans rfl; have hfz9_0 := blk_frozen BK303.out 0; have hfz9_1 := blk_frozen BK303.out 1; have hfz9_2 := blk_frozen BK303.out 2; have hcz10_0 : w5.cell? ⟨gb304, 0, none⟩ = some (.string a1_0) := (blk_cell BK304.out 0).trans rfl; have hcz10_1 : w5.cell? ⟨gb304, 1, none⟩ = some (.int .i64 a1_1) := (blk_cell BK304.out 1).trans rfl; have hcz10_2 : w5.cell? ⟨gb304, 2, none⟩ = some (.slice A1_2 l1_2.length c1_2) := (blk_cell BK304.out 2).trans rfl; have hfz10_0 := blk_frozen BK304.out 0; have hfz10_1 := blk_frozen BK304.out 1; have hfz10_2 := blk_frozen BK304.out 2
        go_wp2
        repeat (go_quiet (fail); try go_wp2)
        go_meet
        case rel => exact ⟨_, (((l0_2.length : Int) != (l1_2.length : Int))), (by first | rfl | (simp; done) | (simp [*]; done) | (simp; unfold wrap64; omega) | (congr 1; (try rw [Bool.eq_iff_iff]); simp [List.isEmpty_iff]; done)), H', ⟨by first | omega | exact Nat.le_refl _⟩, ⟨bkT BK303.out⟩, ⟨bkT BK304.out⟩, ⟨hbT HB.out⟩⟩
      · rw [if_neg c7] at H
        have c7b0 : (a0_1 == a1_1) = false := beq_eq_false_iff_ne.mpr c7
        have c7b1 : (a0_1 != a1_1) = true := bne_iff_ne.mpr c7
        have H' := Aside0.mk H
        clear H; have hnb11 := NB303_304.out
        have hnc11 := NB304_303.out; have hcz12_0 : w5.cell? ⟨gb303, 0, none⟩ = some (.string a0_0) := (blk_cell BK303.out 0).trans rfl; have hcz12_1 : w5.cell? ⟨gb303, 1, none⟩ = some (.int .i64 a0_1) := (blk_cell BK303.out 1).trans rfl; have hcz12_2 : w5.cell? ⟨gb303, 2, none⟩ = some (.slice A0_2 l0_2.length c0_2) := (blk_cell BK303.out 2).trans rfl; have hfz12_0 := blk_frozen BK303.out 0; have hfz12_1 := blk_frozen BK303.out 1; have hfz12_2 := blk_frozen BK303.out 2; have hcz13_0 : w5.cell? ⟨gb304, 0, none⟩ = some (.string a1_0) := (blk_cell BK304.out 0).trans rfl; have hcz13_1 : w5.cell? ⟨gb304, 1, none⟩ = some (.int .i64 a1_1) := (blk_cell BK304.out 1).trans rfl; have hcz13_2 : w5.cell? ⟨gb304, 2, none⟩ = some (.slice A1_2 l1_2.length c1_2) := (blk_cell BK304.out 2).trans rfl; have hfz13_0 := blk_frozen BK304.out 0; have hfz13_1 := blk_frozen BK304.out 1; have hfz13_2 := blk_frozen BK304.out 2
        go_wp2
        repeat (go_quiet (fail); try go_wp2)
        go_meet
        case rel => exact ⟨_, (true), (by first | rfl | (simp; done) | (simp [*]; done) | (simp; unfold wrap64; omega) | (congr 1; (try rw [Bool.eq_iff_iff]); simp [List.isEmpty_iff]; done)), H', ⟨by first | omega | exact Nat.le_refl _⟩, ⟨bkT BK303.out⟩, ⟨bkT BK304.out⟩, ⟨hbT HB.out⟩⟩
    · rw [if_neg c6] at H
      have c6b0 : (a0_0.toList == a1_0.toList) = false := beq_eq_false_iff_ne.mpr c6
      have c6b1 : (a0_0.toList != a1_0.toList) = true := bne_iff_ne.mpr c6
      (first | rw [c6b0] | (simp only [i64_w, i32_w, IntKind.wrap_u8, IntKind.wrap_u16, IntKind.wrap_u32]; rw [c6b0]) | skip)
      have H' := Aside0.mk H
      clear H; have hnb14 := NB303_304.out
      have hnc14 := NB304_303.out; have hcz15_0 : w5.cell? ⟨gb303, 0, none⟩ = some (.string a0_0) := (blk_cell BK303.out 0).trans rfl; have hcz15_1 : w5.cell? ⟨gb303, 1, none⟩ = some (.int .i64 a0_1) := (blk_cell BK303.out 1).trans rfl; have hcz15_2 : w5.cell? ⟨gb303, 2, none⟩ = some (.slice A0_2 l0_2.length c0_2) := (blk_cell BK303.out 2).trans rfl; have hfz15_0 := blk_frozen BK303.out 0; have hfz15_1 := blk_frozen BK303.out 1; have hfz15_2 := blk_frozen BK303.out 2; have hcz16_0 : w5.cell? ⟨gb304, 0, none⟩ = some (.string a1_0) := (blk_cell BK304.out 0).trans rfl; have hcz16_1 : w5.cell? ⟨gb304, 1, none⟩ = some (.int .i64 a1_1) := (blk_cell BK304.out 1).trans rfl; have hcz16_2 : w5.cell? ⟨gb304, 2, none⟩ = some (.slice A1_2 l1_2.length c1_2) := (blk_cell BK304.out 2).trans rfl; have hfz16_0 := blk_frozen BK304.out 0; have hfz16_1 := blk_frozen BK304.out 1; have hfz16_2 := blk_frozen BK304.out 2
      go_wp2
      repeat (go_quiet (fail); try go_wp2)
      go_meet
      case rel => exact ⟨_, (true), (by first | rfl | (simp; done) | (simp [*]; done) | (simp; unfold wrap64; omega) | (congr 1; (try rw [Bool.eq_iff_iff]); simp [List.isEmpty_iff]; done)), H', ⟨by first | omega | exact Nat.le_refl _⟩, ⟨bkT BK303.out⟩, ⟨bkT BK304.out⟩, ⟨hbT HB.out⟩⟩
  case rest =>
    clear HC3
    try clear c1
    try clear p2
    try clear c6
    try clear c6b0
    try clear c6b1
    try clear c7
    try clear c7b0
    try clear c7b1
    try clear c8
    try clear c11
    try clear c12
    try clear c14
    try clear hcz10_0 hcz10_1 hcz10_2
    try clear hcz12_0 hcz12_1 hcz12_2
    try clear hcz13_0 hcz13_1 hcz13_2
    try clear hcz15_0 hcz15_1 hcz15_2
    try clear hcz16_0 hcz16_1 hcz16_2
    try clear hcz9_0 hcz9_1 hcz9_2
    try clear hfz10_0 hfz10_1 hfz10_2
    try clear hfz12_0 hfz12_1 hfz12_2
    try clear hfz13_0 hfz13_1 hfz13_2
    try clear hfz15_0 hfz15_1 hfz15_2
    try clear hfz16_0 hfz16_1 hfz16_2
    try clear hfz9_0 hfz9_1 hfz9_2
    obtain ⟨kq, x26_2, rfl, HA, HJ2, BK303, BK304, HB⟩ := hcut
    cases kq with
    | zero => (have HA2 := HA.out; clear HA; revert HA2; rw [refrainlaw4_sameEvent.j0_zero]; intro h_; cases h_)
    | succ kj2 =>
      have H := HA.out
      clear HA
      simp only [refrainlaw4_sameEvent.j0] at H
      by_cases c17 : x26_2 = true
      · subst c17
        have H1 : (some false) = some r := by rw [if_pos rfl] at H; exact H
        clear H
        have H := H1
        clear H1
        obtain rfl := Option.some.inj H
        go_wp2
        repeat (go_quiet (fail); try go_wp2)
        go_ret
        exact ⟨by first | rfl | (simp [errW_none, errW_some] <;> rfl) | (simp [*, errW_none, errW_some] <;> rfl), hbT HB.out⟩
      · replace c17 := Bool.eq_false_iff.mpr c17
        subst c17
        have H1 : (refrainlaw4_sameEvent.l0 kj2 0 a0_0 a0_1 l0_2 a1_0 a1_1 l1_2) = some r := by rw [if_neg (show ¬ (false = true) by decide)] at H; exact H
        clear H
        have H := H1
        clear H1
        have H' := Aside0.mk H
        clear H
        go_wp2
        repeat (go_quiet (fail); try go_wp2)
        go_loopg [5] kj2 (fun kq v5 w' => ∃ (x5_2 : Int), v5 = .int .i64 x5_2 ∧ Aside0 (refrainlaw4_sameEvent.l0 kq x5_2 a0_0 a0_1 l0_2 a1_0 a1_1 l1_2 = some r) ∧ Aside0 (kq ≤ kj2) ∧ Aside0 (w'.heap[gb303]? = some (.cells #[.string a0_0, .int .i64 a0_1, (.slice A0_2 l0_2.length c0_2)] 35 (0, 0))) ∧ Aside0 (w'.heap[gb304]? = some (.cells #[.string a1_0, .int .i64 a1_1, (.slice A1_2 l1_2.length c1_2)] 35 (0, 0))) ∧ Aside0 (Below w.heap.size w w'))
        case atStart => exact ⟨(0), (by first | rfl | (simp; done) | (simp [*]; done) | (simp; unfold wrap64; omega) | (congr 1; (try rw [Bool.eq_iff_iff]); simp [List.isEmpty_iff]; done)), H', ⟨Nat.le_refl _⟩, ⟨bkT BK303.out⟩, ⟨bkT BK304.out⟩, ⟨hbT HB.out⟩⟩
        case round =>
          clear H'
          try clear c1
          try clear p2
          try clear c6
          try clear c6b0
          try clear c6b1
          try clear c7
          try clear c7b0
          try clear c7b1
          try clear c8
          try clear c11
          try clear c12
          try clear c14
          try clear c17
          try clear hcz10_0 hcz10_1 hcz10_2
          try clear hcz12_0 hcz12_1 hcz12_2
          try clear hcz13_0 hcz13_1 hcz13_2
          try clear hcz15_0 hcz15_1 hcz15_2
          try clear hcz16_0 hcz16_1 hcz16_2
          try clear hcz9_0 hcz9_1 hcz9_2
          try clear hfz10_0 hfz10_1 hfz10_2
          try clear hfz12_0 hfz12_1 hfz12_2
          try clear hfz13_0 hfz13_1 hfz13_2
          try clear hfz15_0 hfz15_1 hfz15_2
          try clear hfz16_0 hfz16_1 hfz16_2
          try clear hfz9_0 hfz9_1 hfz9_2
          try clear p2
          obtain ⟨x5_2, rfl, HA, HK2, BK303, BK304, HB⟩ := hrel
          cases gk with
          | zero => (have HA2 := HA.out; clear HA; revert HA2; rw [refrainlaw4_sameEvent.l0_zero]; intro h_; cases h_)
          | succ k2 =>
            have H := HA.out
            clear HA
            simp only [refrainlaw4_sameEvent.l0] at H
            by_cases c18 : x5_2 < (l0_2.length : Int)
            · rw [if_pos c18] at H
              have c18b0 : decide (x5_2 < (l0_2.length : Int)) = true := decide_eq_true c18
              clear c18
              by_cases c19 : 0 ≤ x5_2
              · rw [if_pos c19] at H
                have c19b0 : decide (0 ≤ x5_2) = true := decide_eq_true c19
                clear c19
                by_cases c20 : x5_2 < (l1_2.length : Int)
                · rw [if_pos c20] at H
                  have c20b0 : decide (x5_2 < (l1_2.length : Int)) = true := decide_eq_true c20
                  clear c20
                  by_cases c21 : (!(((rd_T43 l0_2 x5_2).f0) == ((rd_T43 l1_2 x5_2).f0)) || (!(((rd_T43 l0_2 x5_2).f1) == ((rd_T43 l1_2 x5_2).f1)) || (!((((rd_T43 l0_2 x5_2).f2).toList) == (((rd_T43 l1_2 x5_2).f2).toList)) || (!(((rd_T43 l0_2 x5_2).f3) == ((rd_T43 l1_2 x5_2).f3)))))) = true
                  · rw [if_pos c21] at H
                    have c21b0 : (!(((rd_T43 l0_2 x5_2).f0) == ((rd_T43 l1_2 x5_2).f0)) || (!(((rd_T43 l0_2 x5_2).f1) == ((rd_T43 l1_2 x5_2).f1)) || (!((((rd_T43 l0_2 x5_2).f2).toList) == (((rd_T43 l1_2 x5_2).f2).toList)) || (!(((rd_T43 l0_2 x5_2).f3) == ((rd_T43 l1_2 x5_2).f3)))))) = true := c21
                    clear c21
                    obtain rfl := Option.some.inj H
                    have hnb22 := NB303_304.out; have hnc22 := NB304_303.out; have hcz23_0 : wr.cell? ⟨gb303, 0, none⟩ = some (.string a0_0) := (blk_cell BK303.out 0).trans rfl; have hcz23_1 : wr.cell? ⟨gb303, 1, none⟩ = some (.int .i64 a0_1) := (blk_cell BK303.out 1).trans rfl; have hcz23_2 : wr.cell? ⟨gb303, 2, none⟩ = some (.slice A0_2 l0_2.length c0_2) := (blk_cell BK303.out 2).trans rfl; have hfz23_0 := blk_frozen BK303.out 0; have hfz23_1 := blk_frozen BK303.out 1; have hfz23_2 := blk_frozen BK303.out 2
                    have p305 : 0 ≤ (x5_2 : Int) := of_decide_eq_true (by first | (with_reducible assumption) | assumption)
                    have q305 : x5_2 < (l0_2.length : Int) := of_decide_eq_true (by first | (with_reducible assumption) | assumption)
                    obtain ⟨ad305, e305, hx305_0, hx305_1, hx305_2, hx305_3⟩ := at_T43 HR0_2.out x5_2 p305 q305
                    cases e305
                    replace hx305_0 := (HB.out.cell (World.block_lt_of_cell? w _ hx305_0)).trans hx305_0; replace hx305_1 := (HB.out.cell (World.block_lt_of_cell? w _ hx305_1)).trans hx305_1; replace hx305_2 := (HB.out.cell (World.block_lt_of_cell? w _ hx305_2)).trans hx305_2; replace hx305_3 := (HB.out.cell (World.block_lt_of_cell? w _ hx305_3)).trans hx305_3
                    replace p305 := eq_true p305
                    replace q305 := eq_true q305
                    have hcz24_0 : wr.cell? ⟨gb304, 0, none⟩ = some (.string a1_0) := (blk_cell BK304.out 0).trans rfl; have hcz24_1 : wr.cell? ⟨gb304, 1, none⟩ = some (.int .i64 a1_1) := (blk_cell BK304.out 1).trans rfl; have hcz24_2 : wr.cell? ⟨gb304, 2, none⟩ = some (.slice A1_2 l1_2.length c1_2) := (blk_cell BK304.out 2).trans rfl; have hfz24_0 := blk_frozen BK304.out 0; have hfz24_1 := blk_frozen BK304.out 1; have hfz24_2 := blk_frozen BK304.out 2
                    have p306 : 0 ≤ (x5_2 : Int) := of_decide_eq_true (by first | (with_reducible assumption) | assumption)
                    have q306 : x5_2 < (l1_2.length : Int) := of_decide_eq_true (by first | (with_reducible assumption) | assumption)
                    obtain ⟨ad306, e306, hx306_0, hx306_1, hx306_2, hx306_3⟩ := at_T43 HR1_2.out x5_2 p306 q306
                    cases e306
                    replace hx306_0 := (HB.out.cell (World.block_lt_of_cell? w _ hx306_0)).trans hx306_0; replace hx306_1 := (HB.out.cell (World.block_lt_of_cell? w _ hx306_1)).trans hx306_1; replace hx306_2 := (HB.out.cell (World.block_lt_of_cell? w _ hx306_2)).trans hx306_2; replace hx306_3 := (HB.out.cell (World.block_lt_of_cell? w _ hx306_3)).trans hx306_3
                    replace p306 := eq_true p306
                    replace q306 := eq_true q306
                    go_wp2
                    repeat (go_quiet (fail); try go_wp2)
                    go_ret
                    exact ⟨by first | rfl | (simp [errW_none, errW_some] <;> rfl) | (simp [*, errW_none, errW_some] <;> rfl), hbT HB.out⟩
                  · rw [if_neg c21] at H
                    have c21b0 : (!(((rd_T43 l0_2 x5_2).f0) == ((rd_T43 l1_2 x5_2).f0)) || (!(((rd_T43 l0_2 x5_2).f1) == ((rd_T43 l1_2 x5_2).f1)) || (!((((rd_T43 l0_2 x5_2).f2).toList) == (((rd_T43 l1_2 x5_2).f2).toList)) || (!(((rd_T43 l0_2 x5_2).f3) == ((rd_T43 l1_2 x5_2).f3)))))) = false := by simpa using c21
                    clear c21
                    have H' := Aside0.mk H
                    clear H; have hnb25 := NB303_304.out
                    have hnc25 := NB304_303.out; have hcz26_0 : wr.cell? ⟨gb303, 0, none⟩ = some (.string a0_0) := (blk_cell BK303.out 0).trans rfl; have hcz26_1 : wr.cell? ⟨gb303, 1, none⟩ = some (.int .i64 a0_1) := (blk_cell BK303.out 1).trans rfl; have hcz26_2 : wr.cell? ⟨gb303, 2, none⟩ = some (.slice A0_2 l0_2.length c0_2) := (blk_cell BK303.out 2).trans rfl; have hfz26_0 := blk_frozen BK303.out 0; have hfz26_1 := blk_frozen BK303.out 1; have hfz26_2 := blk_frozen BK303.out 2
                    have p305 : 0 ≤ (x5_2 : Int) := of_decide_eq_true (by first | (with_reducible assumption) | assumption)
                    have q305 : x5_2 < (l0_2.length : Int) := of_decide_eq_true (by first | (with_reducible assumption) | assumption)
                    obtain ⟨ad305, e305, hx305_0, hx305_1, hx305_2, hx305_3⟩ := at_T43 HR0_2.out x5_2 p305 q305
                    cases e305
                    replace hx305_0 := (HB.out.cell (World.block_lt_of_cell? w _ hx305_0)).trans hx305_0; replace hx305_1 := (HB.out.cell (World.block_lt_of_cell? w _ hx305_1)).trans hx305_1; replace hx305_2 := (HB.out.cell (World.block_lt_of_cell? w _ hx305_2)).trans hx305_2; replace hx305_3 := (HB.out.cell (World.block_lt_of_cell? w _ hx305_3)).trans hx305_3
                    replace p305 := eq_true p305
                    replace q305 := eq_true q305
                    have hcz27_0 : wr.cell? ⟨gb304, 0, none⟩ = some (.string a1_0) := (blk_cell BK304.out 0).trans rfl; have hcz27_1 : wr.cell? ⟨gb304, 1, none⟩ = some (.int .i64 a1_1) := (blk_cell BK304.out 1).trans rfl; have hcz27_2 : wr.cell? ⟨gb304, 2, none⟩ = some (.slice A1_2 l1_2.length c1_2) := (blk_cell BK304.out 2).trans rfl; have hfz27_0 := blk_frozen BK304.out 0; have hfz27_1 := blk_frozen BK304.out 1; have hfz27_2 := blk_frozen BK304.out 2
                    have p306 : 0 ≤ (x5_2 : Int) := of_decide_eq_true (by first | (with_reducible assumption) | assumption)
                    have q306 : x5_2 < (l1_2.length : Int) := of_decide_eq_true (by first | (with_reducible assumption) | assumption)
                    obtain ⟨ad306, e306, hx306_0, hx306_1, hx306_2, hx306_3⟩ := at_T43 HR1_2.out x5_2 p306 q306
                    cases e306
                    replace hx306_0 := (HB.out.cell (World.block_lt_of_cell? w _ hx306_0)).trans hx306_0; replace hx306_1 := (HB.out.cell (World.block_lt_of_cell? w _ hx306_1)).trans hx306_1; replace hx306_2 := (HB.out.cell (World.block_lt_of_cell? w _ hx306_2)).trans hx306_2; replace hx306_3 := (HB.out.cell (World.block_lt_of_cell? w _ hx306_3)).trans hx306_3
                    replace p306 := eq_true p306
                    replace q306 := eq_true q306
                    go_wp2
                    repeat (go_quiet (fail); try go_wp2)
                    go_roundg k2
                    case measure => have := HJ2.out; have := HK2.out; omega
                    case rel => exact ⟨(wrap64 (x5_2 + 1)), (by first | rfl | (simp; done) | (simp [*]; done) | (simp; unfold wrap64; omega) | (congr 1; (try rw [Bool.eq_iff_iff]); simp [List.isEmpty_iff]; done)), H', ⟨by have := HJ2.out; have := HK2.out; omega⟩, ⟨bkT BK303.out⟩, ⟨bkT BK304.out⟩, ⟨hbT HB.out⟩⟩
                · rw [if_neg c20] at H
                  exact absurd H (by simp)
              · rw [if_neg c19] at H
                exact absurd H (by simp)
            · rw [if_neg c18] at H
              have c18b0 : decide (x5_2 < (l0_2.length : Int)) = false := decide_eq_false c18
              clear c18
              obtain rfl := Option.some.inj H
              have hnb28 := NB303_304.out; have hnc28 := NB304_303.out; have hcz29_0 : wr.cell? ⟨gb303, 0, none⟩ = some (.string a0_0) := (blk_cell BK303.out 0).trans rfl; have hcz29_1 : wr.cell? ⟨gb303, 1, none⟩ = some (.int .i64 a0_1) := (blk_cell BK303.out 1).trans rfl; have hcz29_2 : wr.cell? ⟨gb303, 2, none⟩ = some (.slice A0_2 l0_2.length c0_2) := (blk_cell BK303.out 2).trans rfl; have hfz29_0 := blk_frozen BK303.out 0; have hfz29_1 := blk_frozen BK303.out 1; have hfz29_2 := blk_frozen BK303.out 2
              go_wp2
              repeat (go_quiet (fail); try go_wp2)
              go_ret
              exact ⟨by first | rfl | (simp [errW_none, errW_some] <;> rfl) | (simp [*, errW_none, errW_some] <;> rfl), hbT HB.out⟩

/-! ### refrainlaw4_sameRow: function 16 -/
def refrainlaw4_sameRow.l0 : Nat → List ByteArray → List ByteArray → Int → Option (Bool)
  | 0, _, _, _ => none
  | k + 1, x0, x1, x5 => if x5 < (x0.length : Int) then (if 0 ≤ x5 then (if x5 < (x1.length : Int) then (if (rdOf ByteArray.empty x0 x5).toList = (rdOf ByteArray.empty x1 x5).toList then (refrainlaw4_sameRow.l0 k x0 x1 (wrap64 (x5 + 1))) else (some false)) else (none)) else (none)) else (some true)
def refrainlaw4_sameRow.f (k : Nat) (l0 : List ByteArray) (l1 : List ByteArray) : Option (Bool) := if (l0.length : Int) = (l1.length : Int) then (refrainlaw4_sameRow.l0 k l0 l1 0) else (some false)
set_option maxRecDepth 100000 in
theorem refrainlaw4_sameRow.l0_zero : ∀ y0 y1 y2, refrainlaw4_sameRow.l0 0 y0 y1 y2 = none := fun _ _ _ => rfl
set_option maxRecDepth 100000 in
theorem refrainlaw4_sameRow.mono_l : ∀ k, (∀ y0 y1 y2, LeO (refrainlaw4_sameRow.l0 k y0 y1 y2) (refrainlaw4_sameRow.l0 (k + 1) y0 y1 y2))
  | 0 => fun _ _ _ r h => by (unfold refrainlaw4_sameRow.l0 at h; cases h)
  | k + 1 => by
    have ih0 := refrainlaw4_sameRow.mono_l k
    · intro y0 y1 y2
      unfold refrainlaw4_sameRow.l0
      repeat' first
      | (with_reducible exact ih0 _ _ _)
      | (with_reducible exact LeO.refl _)
      | (with_reducible exact LeO.none _)
      | (with_reducible refine LeO.ite ?_ ?_)
      | (with_reducible refine LeO.bind ?_ (fun _ => ?_))
      | exact ih0 _ _ _
      | exact LeO.none _
      | refine LeO.ite ?_ ?_
      | refine LeO.bind ?_ (fun _ => ?_)
set_option maxRecDepth 100000 in
theorem refrainlaw4_sameRow.mono : ∀ a0 a1 k, LeO (refrainlaw4_sameRow.f k a0 a1) (refrainlaw4_sameRow.f (k + 1) a0 a1) := by
  intro a0 a1 k
  have ih0 := refrainlaw4_sameRow.mono_l k
  unfold refrainlaw4_sameRow.f
  repeat' first
      | (with_reducible exact ih0 _ _ _)
      | (with_reducible exact LeO.refl _)
      | (with_reducible exact LeO.none _)
      | (with_reducible refine LeO.ite ?_ ?_)
      | (with_reducible refine LeO.bind ?_ (fun _ => ?_))
      | exact ih0 _ _ _
      | exact LeO.none _
      | refine LeO.ite ?_ ?_
      | refine LeO.bind ?_ (fun _ => ?_)
set_option maxHeartbeats 8000000 in
set_option maxRecDepth 100000 in
theorem refrainlaw4_sameRow.calls (k : Nat) (A0 : Option Addr) (c0 : Nat) (l0 : List ByteArray) (A1 : Option Addr) (c1 : Nat) (l1 : List ByteArray) (r : Bool) (w : World) (hr0 : Kd.C Kd.string w A0 l0.length l0) (hc0 : l0.length ≤ c0) (hr1 : Kd.C Kd.string w A1 l1.length l1) (hc1 : l1.length ≤ c1) (h : refrainlaw4_sameRow.f k l0 l1 = some r) :
    Calls Tryz.prog 16 #[.slice A0 l0.length c0, .slice A1 l1.length c1] w fun e w' => e = .returned (.bool r) ∧ Drawn0 w w' := by
  have HR0 := Aside0.mk hr0
  have HC0 := Aside0.mk hc0
  clear hr0 hc0
  have HR1 := Aside0.mk hr1
  have HC1 := Aside0.mk hc1
  clear hr1 hc1
  have H : (if (l0.length : Int) = (l1.length : Int) then (refrainlaw4_sameRow.l0 k l0 l1 0) else (some false)) = some r := h
  clear h
  by_cases c3 : (l0.length : Int) = (l1.length : Int)
  · rw [if_pos c3] at H
    have c3b0 : ((l0.length : Int) == (l1.length : Int)) = true := beq_iff_eq.mpr c3
    have c3b1 : ((l0.length : Int) != (l1.length : Int)) = false := bne_eq_false_iff_eq.mpr c3
    have c3b2 : (l0.length == l1.length) = true := by first | simpa using c3 | (simp at c3 ⊢; omega)
    clear c3
    have H' := Aside0.mk H
    clear H
    go_enter Tryz.func16, Tryz.ntmps16
    go_wp2
    repeat (go_quiet (fail); try go_wp2)
    go_loopg [5] k (fun kq v5 w' => ∃ (x5_1 : Int), v5 = .int .i64 x5_1 ∧ Aside0 (refrainlaw4_sameRow.l0 kq l0 l1 x5_1 = some r) ∧ Aside0 (kq ≤ k) ∧ Drawn0 w w')
    case atStart => exact ⟨(0), (by first | rfl | (simp; done) | (simp [*]; done) | (simp; unfold wrap64; omega) | (congr 1; (try rw [Bool.eq_iff_iff]); simp [List.isEmpty_iff]; done)), H', ⟨Nat.le_refl _⟩, by repeat (first | exact Drawn0.refl _ | apply Drawn0.step)⟩
    case round =>
      clear H'
      try clear c1
      try clear p2
      try clear c3
      try clear c3b0
      try clear c3b1
      try clear c3b2
      obtain ⟨x5_1, rfl, HA, HK1, ⟨m1, rfl⟩⟩ := hrel
      cases gk with
      | zero => (have HA2 := HA.out; clear HA; revert HA2; rw [refrainlaw4_sameRow.l0_zero]; intro h_; cases h_)
      | succ k1 =>
        have H := HA.out
        clear HA
        simp only [refrainlaw4_sameRow.l0] at H
        by_cases c4 : x5_1 < (l0.length : Int)
        · rw [if_pos c4] at H
          have c4b0 : decide (x5_1 < (l0.length : Int)) = true := decide_eq_true c4
          clear c4
          by_cases c5 : 0 ≤ x5_1
          · rw [if_pos c5] at H
            have c5b0 : decide (0 ≤ x5_1) = true := decide_eq_true c5
            clear c5
            by_cases c6 : x5_1 < (l1.length : Int)
            · rw [if_pos c6] at H
              have c6b0 : decide (x5_1 < (l1.length : Int)) = true := decide_eq_true c6
              clear c6
              by_cases c7 : (rdOf ByteArray.empty l0 x5_1).toList = (rdOf ByteArray.empty l1 x5_1).toList
              · rw [if_pos c7] at H
                have c7b0 : ((rdOf ByteArray.empty l0 x5_1).toList == (rdOf ByteArray.empty l1 x5_1).toList) = true := beq_iff_eq.mpr c7
                have c7b1 : ((rdOf ByteArray.empty l0 x5_1).toList != (rdOf ByteArray.empty l1 x5_1).toList) = false := bne_eq_false_iff_eq.mpr c7
                clear c7
                have H' := Aside0.mk H
                clear H
                have p307 : 0 ≤ (x5_1 : Int) := of_decide_eq_true (by first | (with_reducible assumption) | assumption)
                have q307 : x5_1 < (l0.length : Int) := of_decide_eq_true (by first | (with_reducible assumption) | assumption)
                obtain ⟨ad307, e307, hx307_0⟩ := Kd.at_string HR0.out x5_1 p307 q307
                cases e307
                replace p307 := eq_true p307
                replace q307 := eq_true q307
                have p308 : 0 ≤ (x5_1 : Int) := of_decide_eq_true (by first | (with_reducible assumption) | assumption)
                have q308 : x5_1 < (l1.length : Int) := of_decide_eq_true (by first | (with_reducible assumption) | assumption)
                obtain ⟨ad308, e308, hx308_0⟩ := Kd.at_string HR1.out x5_1 p308 q308
                cases e308
                replace p308 := eq_true p308
                replace q308 := eq_true q308
                go_wp2
                repeat (go_quiet (fail); try go_wp2)
                go_roundg k1
                case measure => have := HK1.out; omega
                case rel => exact ⟨(wrap64 (x5_1 + 1)), (by first | rfl | (simp; done) | (simp [*]; done) | (simp; unfold wrap64; omega) | (congr 1; (try rw [Bool.eq_iff_iff]); simp [List.isEmpty_iff]; done)), H', ⟨by have := HK1.out; omega⟩, by repeat (first | exact Drawn0.refl _ | apply Drawn0.step)⟩
              · rw [if_neg c7] at H
                have c7b0 : ((rdOf ByteArray.empty l0 x5_1).toList == (rdOf ByteArray.empty l1 x5_1).toList) = false := beq_eq_false_iff_ne.mpr c7
                have c7b1 : ((rdOf ByteArray.empty l0 x5_1).toList != (rdOf ByteArray.empty l1 x5_1).toList) = true := bne_iff_ne.mpr c7
                obtain rfl := Option.some.inj H
                have p307 : 0 ≤ (x5_1 : Int) := of_decide_eq_true (by first | (with_reducible assumption) | assumption)
                have q307 : x5_1 < (l0.length : Int) := of_decide_eq_true (by first | (with_reducible assumption) | assumption)
                obtain ⟨ad307, e307, hx307_0⟩ := Kd.at_string HR0.out x5_1 p307 q307
                cases e307
                replace p307 := eq_true p307
                replace q307 := eq_true q307
                have p308 : 0 ≤ (x5_1 : Int) := of_decide_eq_true (by first | (with_reducible assumption) | assumption)
                have q308 : x5_1 < (l1.length : Int) := of_decide_eq_true (by first | (with_reducible assumption) | assumption)
                obtain ⟨ad308, e308, hx308_0⟩ := Kd.at_string HR1.out x5_1 p308 q308
                cases e308
                replace p308 := eq_true p308
                replace q308 := eq_true q308
                go_wp2
                repeat (go_quiet (fail); try go_wp2)
                go_ret
                exact ⟨by first | rfl | (simp; done) | (simp [*]; done) | (simp; unfold wrap64; omega) | (congr 1; (try rw [Bool.eq_iff_iff]); simp [List.isEmpty_iff]; done), by repeat (first | exact Drawn0.refl _ | apply Drawn0.step)⟩
            · rw [if_neg c6] at H
              exact absurd H (by simp)
          · rw [if_neg c5] at H
            exact absurd H (by simp)
        · rw [if_neg c4] at H
          have c4b0 : decide (x5_1 < (l0.length : Int)) = false := decide_eq_false c4
          clear c4
          obtain rfl := Option.some.inj H
          go_wp2
          repeat (go_quiet (fail); try go_wp2)
          go_ret
          exact ⟨by first | rfl | (simp; done) | (simp [*]; done) | (simp; unfold wrap64; omega) | (congr 1; (try rw [Bool.eq_iff_iff]); simp [List.isEmpty_iff]; done), by repeat (first | exact Drawn0.refl _ | apply Drawn0.step)⟩
  · rw [if_neg c3] at H
    have c3b0 : ((l0.length : Int) == (l1.length : Int)) = false := beq_eq_false_iff_ne.mpr c3
    have c3b1 : ((l0.length : Int) != (l1.length : Int)) = true := bne_iff_ne.mpr c3
    have c3b2 : (l0.length == l1.length) = false := by first | simpa using c3 | (simp at c3 ⊢; omega)
    obtain rfl := Option.some.inj H
    go_enter Tryz.func16, Tryz.ntmps16
    go_wp2
    repeat (go_quiet (fail); try go_wp2)
    go_ret
    exact ⟨by first | rfl | (simp; done) | (simp [*]; done) | (simp; unfold wrap64; omega) | (congr 1; (try rw [Bool.eq_iff_iff]); simp [List.isEmpty_iff]; done), by repeat (first | exact Drawn0.refl _ | apply Drawn0.step)⟩

end Go.Proofs.YtpkbhfdfgapmlaaGreatDoor.Pr
end

/-! ## text PuBase -/
section
namespace Go.Proofs.YtpkbhfdfgapmlaaGreatDoor.Pu
open Go.RowKit Go.Proofs.YtpkbhfdfgapmlaaGreatDoorW.PrintWords Go.Proofs.YtpkbhfdfgapmlaaGreatDoorW.PrintLast Go.Proofs.YtpkbhfdfgapmlaaGreatDoorW.PrintMore
set_option linter.unusedVariables false
set_option linter.unusedSimpArgs false

/-- Plain facts on strings as lists of bytes, for the pure statements: no program, no memory. -/
def B (l : List UInt8) : ByteArray := ⟨l.toArray⟩
@[simp] theorem B_data (l : List UInt8) : (B l).data.toList = l := rfl
@[simp] theorem B_size (l : List UInt8) : (B l).size = l.length := by simp [B, ByteArray.size]
theorem B_of (s : ByteArray) : B s.data.toList = s := by cases s; rfl
theorem B_inj {a b : List UInt8} (h : B a = B b) : a = b := by have := congrArg (fun s => s.data.toList) h; simpa using this
theorem data_len (s : ByteArray) : s.data.toList.length = s.size := by simp
theorem tl_data (s : ByteArray) : s.toList = s.data.toList := by
  have hl := data_len s
  have h : ∀ (m i : Nat) (r : List UInt8), s.size - i = m → ByteArray.toList.loop s i r = r.reverse ++ s.data.toList.drop i := by
    intro m
    induction m with
    | zero =>
      intro i r hm
      rw [ByteArray.toList.loop, if_neg (by omega), List.drop_eq_nil_of_le (by omega), List.append_nil]
    | succ m ih =>
      intro i r hm
      have hi : i < s.size := by omega
      rw [ByteArray.toList.loop, if_pos hi, ih (i + 1) _ (by omega)]
      have e : s.get! i = s.data.toList[i]'(by omega) := by
        unfold ByteArray.get!
        simp only [Array.getElem_toList]
        exact getElem!_pos s.data i hi
      rw [e, List.reverse_cons, List.append_assoc, List.singleton_append, ← List.drop_eq_getElem_cons]
  have := h s.size 0 [] (by omega)
  simpa [ByteArray.toList] using this
@[simp] theorem B_toList (l : List UInt8) : (B l).toList = l := by rw [tl_data]; rfl
theorem B_append (a b : List UInt8) : B a ++ B b = B (a ++ b) := by
  have : (B a ++ B b).data.toList = a ++ b := by simp [B]
  rw [← B_of (B a ++ B b), this]
theorem B_extract (l : List UInt8) (i j : Nat) : (B l).extract i j = B ((l.take j).drop i) := by
  have : ((B l).extract i j).data.toList = (l.take j).drop i := by simp [B, ByteArray.data_extract, List.drop_take]
  rw [← B_of ((B l).extract i j), this]
theorem bt_mid (pre : List UInt8) (c : UInt8) (t : List UInt8) : bt (B (pre ++ c :: t)) (pre.length : Int) = (c.toNat : Int) := by
  unfold bt
  have h : (pre.length : Int).toNat < (B (pre ++ c :: t)).size := by simp
  rw [dif_pos h]
  have e : (B (pre ++ c :: t))[((pre.length : Int)).toNat]'h = (pre ++ c :: t)[pre.length]'(by simp) := by
    simp only [Int.toNat_natCast]
    rfl
  rw [e]
  simp
theorem bt_head (c : UInt8) (t : List UInt8) : bt (B (c :: t)) 0 = (c.toNat : Int) := bt_mid [] c t
theorem w64 {n : Int} (h0 : -9223372036854775808 ≤ n) (h1 : n ≤ 9223372036854775807) : wrap64 n = n := by unfold wrap64; omega

theorem strOfNums_bytes (l : List UInt8) : strOfNums (l.map fun b => (b.toNat : Int)) = B l := by
  unfold strOfNums B
  congr 1
  simp [List.map_map, Function.comp_def]
end Go.Proofs.YtpkbhfdfgapmlaaGreatDoor.Pu
end

/-! ## text Prx4 -/
section
namespace Go.Proofs.YtpkbhfdfgapmlaaGreatDoor.Pr
open Go.RowKit Go.Proofs.YtpkbhfdfgapmlaaGreatDoorW.PrintWords Go.Proofs.YtpkbhfdfgapmlaaGreatDoorW.PrintLast Go.Proofs.YtpkbhfdfgapmlaaGreatDoorW.PrintMore
attribute [local go_sem] max2_int min2_int max_two min_two max_three min_three max_four min_four   -- for this text's walks alone
attribute [local go_sem high] Go.Proofs.YtpkbhfdfgapmlaaGreatDoor.isSome_setCell
set_option maxRecDepth 100000
set_option linter.unusedVariables false
set_option linter.unusedSimpArgs false

/-! ### stringslite_HasPrefix: function 92 -/
def stringslite_HasPrefix.f (a0 : ByteArray) (a1 : ByteArray) : Option (Bool) := if (a0.size : Int) ≥ (a1.size : Int) then (if 0 ≤ (a1.size : Int) then (if (a1.size : Int) ≤ (a0.size : Int) then (some ((a0.extract 0 ((a1.size : Int) : Int).toNat).toList == a1.toList)) else (none)) else (none)) else (some false)
set_option maxHeartbeats 8000000 in
set_option maxRecDepth 100000 in
theorem stringslite_HasPrefix.calls (a0 : ByteArray) (a1 : ByteArray) (r : Bool) (w : World) (h : stringslite_HasPrefix.f a0 a1 = some r) :
    Calls Tryz.prog 92 #[.string a0, .string a1] w fun e w' => e = .returned (.bool r) ∧ Drawn0 w w' := by
  have H : (if (a0.size : Int) ≥ (a1.size : Int) then (if 0 ≤ (a1.size : Int) then (if (a1.size : Int) ≤ (a0.size : Int) then (some ((a0.extract 0 ((a1.size : Int) : Int).toNat).toList == a1.toList)) else (none)) else (none)) else (some false)) = some r := h
  clear h
  by_cases c3 : (a0.size : Int) ≥ (a1.size : Int)
  · rw [if_pos c3] at H
    have c3b0 : decide ((a1.size : Int) ≤ (a0.size : Int)) = true := decide_eq_true c3
    have c3b1 : decide (a1.size ≤ a0.size) = true := decide_eq_true (Int.ofNat_le.mp c3)
    clear c3
    by_cases c4 : 0 ≤ (a1.size : Int)
    · rw [if_pos c4] at H
      have c4b0 := eq_true c4
      have c4b1 : decide (0 ≤ (a1.size : Int)) = true := decide_eq_true c4
      clear c4
      by_cases c5 : (a1.size : Int) ≤ (a0.size : Int)
      · rw [if_pos c5] at H
        have c5b0 := eq_true c5
        have c5b1 : decide ((a1.size : Int) ≤ (a0.size : Int)) = true := decide_eq_true c5
        clear c5
        obtain rfl := Option.some.inj H
        go_enter Tryz.func92, Tryz.ntmps92
        go_wp2
        go_ret
        exact ⟨by first | rfl | (simp; done) | (simp [*]; done) | (simp; unfold wrap64; omega) | (congr 1; (try rw [Bool.eq_iff_iff]); simp [List.isEmpty_iff]; done), by repeat (first | exact Drawn0.refl _ | apply Drawn0.step)⟩
      · rw [if_neg c5] at H
        exact absurd H (by simp)
    · rw [if_neg c4] at H
      exact absurd H (by simp)
  · rw [if_neg c3] at H
    have c3b0 : decide ((a1.size : Int) ≤ (a0.size : Int)) = false := decide_eq_false c3
    have c3b1 : decide (a1.size ≤ a0.size) = false := decide_eq_false (fun h => c3 (Int.ofNat_le.mpr h))
    clear c3
    obtain rfl := Option.some.inj H
    go_enter Tryz.func92, Tryz.ntmps92
    go_wp2
    go_ret
    exact ⟨by first | rfl | (simp; done) | (simp [*]; done) | (simp; unfold wrap64; omega) | (congr 1; (try rw [Bool.eq_iff_iff]); simp [List.isEmpty_iff]; done), by repeat (first | exact Drawn0.refl _ | apply Drawn0.step)⟩

/-! ### strings_HasPrefix: function 74 -/
def strings_HasPrefix.f (a0 : ByteArray) (a1 : ByteArray) : Option (Bool) := (stringslite_HasPrefix.f a0 a1).bind fun t131 => (some t131)
set_option maxHeartbeats 8000000 in
set_option maxRecDepth 100000 in
theorem strings_HasPrefix.calls (a0 : ByteArray) (a1 : ByteArray) (r : Bool) (w : World) (h : strings_HasPrefix.f a0 a1 = some r) :
    Calls Tryz.prog 74 #[.string a0, .string a1] w fun e w' => e = .returned (.bool r) ∧ Drawn0 w w' := by
  have H : ((stringslite_HasPrefix.f a0 a1).bind fun t131 => (some t131)) = some r := h
  clear h
  replace H := Option.bind_eq_some_iff.mp H
  obtain ⟨t131, A30, H⟩ := H
  replace H : (some t131) = some r := H
  have A3 := Aside0.mk A30
  clear A30
  obtain rfl := Option.some.inj H
  go_enter Tryz.func74, Tryz.ntmps74
  go_wp2_with (first | ((with_reducible refine gate_callee (f := 92) rfl ?_); refine goesT (some 7) Tryz.func92 #[.string a0, .string a1] ?_; (with_reducible refine (stringslite_HasPrefix.calls a0 a1 t131 _ A3.out).mono ?_); rintro e w' ⟨rfl, ⟨nd, rfl⟩⟩; refine ⟨_, rfl, ?_⟩))
  go_ret
  exact ⟨by first | rfl | (simp; done) | (simp [*]; done) | (simp; unfold wrap64; omega) | (congr 1; (try rw [Bool.eq_iff_iff]); simp [List.isEmpty_iff]; done), by repeat (first | exact Drawn0.refl _ | apply Drawn0.step)⟩

/-! ### strconv_lower: function 144 -/
def strconv_lower.f (a0 : Int) : Option (Int) := some (Go.bits .or .u8 a0 32)
set_option maxHeartbeats 8000000 in
set_option maxRecDepth 100000 in
theorem strconv_lower.calls (a0 : Int) (r : Int) (w : World) (h : strconv_lower.f a0 = some r) :
    Calls Tryz.prog 144 #[.int .u8 a0] w fun e w' => e = .returned (.int .u8 r) ∧ Drawn0 w w' := by
  have H : (some (Go.bits .or .u8 a0 32)) = some r := h
  clear h
  obtain rfl := Option.some.inj H
  go_enter Tryz.func144, Tryz.ntmps144
  go_wp2
  go_ret
  exact ⟨by first | rfl | (simp; done) | (simp [*]; done) | (simp; unfold wrap64; omega) | (congr 1; (try rw [Bool.eq_iff_iff]); simp [List.isEmpty_iff]; done), by repeat (first | exact Drawn0.refl _ | apply Drawn0.step)⟩

end Go.Proofs.YtpkbhfdfgapmlaaGreatDoor.Pr
end

/-! ## text ExtErr -/
section
namespace Go.Proofs.YtpkbhfdfgapmlaaGreatDoor
open Go Go.RowKit
/-- An error of package strconv: none, or a pointer to a new one. -/
def ErrX : Option Int → Value → Prop
  | none, v => v = .nilIface
  | some _, v => ∃ N : Nat, v = .iface 169 (.pointer (some ⟨N, 0, none⟩))
theorem ErrX_none {v : Value} (h : ErrX none v) : v = .nilIface := h
theorem ErrX_some {c : Int} {v : Value} (h : ErrX (some c) v) : ∃ N : Nat, v = .iface 169 (.pointer (some ⟨N, 0, none⟩)) := h
end Go.Proofs.YtpkbhfdfgapmlaaGreatDoor
end

/-! ## text ShV -/
section
namespace Go.Proofs
open Go.Shelf
def Tryz.laysM173_ren : Go.Shelf.Ren := ⟨fun | 173 => 82 | 246 => 96 | 283 => 112 | 284 => 113 | 285 => 114 | 286 => 115 | 129 => 135 | 317 => 134 | 318 => 136 | 319 => 137 | 320 => 138 | 337 => 148 | 338 => 149 | n => n, fun | 2 => 2 | 3 => 3 | 9 => 9 | 4 => 4 | 171 => 156 | 0 => 0 | 53 => 118 | 37 => 71 | 5 => 5 | 173 => 159 | 212 => 173 | 51 => 174 | 20 => 20 | 213 => 175 | 46 => 142 | 232 => 200 | 233 => 201 | n => n, fun | 17 => 0 | 18 => 7 | 19 => 8 | n => n⟩
theorem Tryz.laysM173 : Go.Proofs.LaysM.n173 Tryz.prog Tryz.laysM173_ren := {
  mixed := by kernel_rfl
  f129 := Tryz.func135.trans (congrArg some (by kernel_rfl))
  f173 := Tryz.func82.trans (congrArg some (by kernel_rfl))
  f246 := Tryz.func96.trans (congrArg some (by kernel_rfl))
  f283 := Tryz.func112.trans (congrArg some (by kernel_rfl))
  f284 := Tryz.func113.trans (congrArg some (by kernel_rfl))
  f285 := Tryz.func114.trans (congrArg some (by kernel_rfl))
  f286 := Tryz.func115.trans (congrArg some (by kernel_rfl))
  f317 := Tryz.func134.trans (congrArg some (by kernel_rfl))
  f318 := Tryz.func136.trans (congrArg some (by kernel_rfl))
  f319 := Tryz.func137.trans (congrArg some (by kernel_rfl))
  f320 := Tryz.func138.trans (congrArg some (by kernel_rfl))
  f337 := Tryz.func148.trans (congrArg some (by kernel_rfl))
  f338 := Tryz.func149.trans (congrArg some (by kernel_rfl))
  t0 := Tryz.underlying0
  a0 := Tryz.isAgg0
  z0 := Tryz.sizeOf0
  v0 := Tryz.zeroValue0
  t2 := Tryz.underlying2
  a2 := Tryz.isAgg2
  z2 := Tryz.sizeOf2
  v2 := Tryz.zeroValue2
  t3 := Tryz.underlying3
  a3 := Tryz.isAgg3
  z3 := Tryz.sizeOf3
  v3 := Tryz.zeroValue3
  t4 := Tryz.underlying4
  a4 := Tryz.isAgg4
  z4 := Tryz.sizeOf4
  v4 := Tryz.zeroValue4
  t5 := Tryz.underlying5
  a5 := Tryz.isAgg5
  z5 := Tryz.sizeOf5
  v5 := Tryz.zeroValue5
  t9 := Tryz.underlying9
  a9 := Tryz.isAgg9
  z9 := Tryz.sizeOf9
  v9 := Tryz.zeroValue9
  t20 := Tryz.underlying20
  a20 := Tryz.isAgg20
  z20 := Tryz.sizeOf20
  v20 := Tryz.zeroValue20
  t37 := Tryz.underlying71
  a37 := Tryz.isAgg71
  z37 := Tryz.sizeOf71
  v37 := Tryz.zeroValue71
  t46 := Tryz.underlying142
  a46 := Tryz.isAgg142
  z46 := Tryz.sizeOf142
  v46 := Tryz.zeroValue142
  t51 := Tryz.underlying174
  a51 := Tryz.isAgg174
  z51 := Tryz.sizeOf174
  v51 := Tryz.zeroValue174
  t53 := Tryz.underlying118
  a53 := Tryz.isAgg118
  z53 := Tryz.sizeOf118
  v53 := Tryz.zeroValue118
  t171 := Tryz.underlying156
  a171 := Tryz.isAgg156
  z171 := Tryz.sizeOf156
  v171 := Tryz.zeroValue156
  t173 := Tryz.underlying159
  a173 := Tryz.isAgg159
  z173 := Tryz.sizeOf159
  v173 := Tryz.zeroValue159
  t212 := Tryz.underlying173
  a212 := Tryz.isAgg173
  z212 := Tryz.sizeOf173
  v212 := Tryz.zeroValue173
  t213 := Tryz.underlying175
  a213 := Tryz.isAgg175
  z213 := Tryz.sizeOf175
  t232 := Tryz.underlying200
  a232 := Tryz.isAgg200
  z232 := Tryz.sizeOf200
  v232 := Tryz.zeroValue200
  t233 := Tryz.underlying201
  a233 := Tryz.isAgg201
  z233 := Tryz.sizeOf201
  v233 := Tryz.zeroValue201
  g17 := by kernel_rfl
  g18 := by kernel_rfl
  g19 := by kernel_rfl
  i0 := by kernel_rfl
  i2 := by kernel_rfl
  i3 := by kernel_rfl
  i4 := by kernel_rfl
  i5 := by kernel_rfl
  i9 := by kernel_rfl
  i20 := by kernel_rfl
  i37 := by kernel_rfl
  i46 := by kernel_rfl
  i51 := by kernel_rfl
  i53 := by kernel_rfl
  i171 := by kernel_rfl
  i173 := by kernel_rfl
  i212 := by kernel_rfl
  i232 := by kernel_rfl
  i233 := by kernel_rfl
  m17 := by kernel_rfl
  m18 := by kernel_rfl
  m19 := by kernel_rfl }
open Go.RowKit Go.Sort Go.Lib in
/-- strconv.FormatInt: "FormatInt returns the string representation of i in the given base": AT BASE 10: i's decimal numeral, for every int64. (LAID: no walk: one application.) -/
theorem Tryz.strconv_FormatInt_10 (n : Int) (h0 : -9223372036854775808 ≤ n) (h1 : n ≤ 9223372036854775807) (w : World) (htab : Lib.TabIs Tryz.prog w "internal/strconv.uint64pow10" .u64 Lib.pow10Tab) :
    Calls Tryz.prog 82 #[.int .i64 n, .int .i64 10] w fun e w' => e = .returned (.string ⟨(Lib.itoa n).toArray⟩) ∧ ∃ k os, w' = grow (w.drewN k) os := Any.strconv_FormatInt_10 Tryz.laysM173 n h0 h1 w htab
def Tryz.laysC245_ren : Go.Shelf.Ren := ⟨fun | 245 => 111 | 279 => 130 | 280 => 131 | 281 => 132 | 282 => 133 | 316 => 80 | 171 => 147 | 205 => 146 | 243 => 155 | 246 => 96 | 283 => 112 | 284 => 113 | 285 => 114 | 286 => 115 | 129 => 135 | 317 => 134 | 318 => 136 | 319 => 137 | 320 => 138 | 337 => 148 | 338 => 149 | n => n, fun | 9 => 9 | 3 => 3 | 75 => 96 | 167 => 168 | 4 => 4 | 168 => 169 | 210 => 189 | 37 => 71 | 0 => 0 | 127 => 121 | 145 => 199 | 143 => 197 | 2 => 2 | 171 => 156 | 53 => 118 | 5 => 5 | 173 => 159 | 212 => 173 | 51 => 174 | 20 => 20 | 213 => 175 | 46 => 142 | 232 => 200 | 233 => 201 | 80 => 102 | n => n, fun | 15 => 5 | 16 => 6 | 17 => 0 | 18 => 7 | 19 => 8 | n => n⟩
theorem Tryz.laysC245 : Go.Proofs.LaysC.n245 Tryz.prog Tryz.laysC245_ren := {
  mixed := by kernel_rfl
  f129 := Tryz.func135.trans (congrArg some (by kernel_rfl))
  f171 := Tryz.func147.trans (congrArg some (by kernel_rfl))
  f205 := Tryz.func146.trans (congrArg some (by kernel_rfl))
  f243 := Tryz.func155.trans (congrArg some (by kernel_rfl))
  f245 := Tryz.func111.trans (congrArg some (by kernel_rfl))
  f246 := Tryz.func96.trans (congrArg some (by kernel_rfl))
  f279 := Tryz.func130.trans (congrArg some (by kernel_rfl))
  f280 := Tryz.func131.trans (congrArg some (by kernel_rfl))
  f281 := Tryz.func132.trans (congrArg some (by kernel_rfl))
  f282 := Tryz.func133.trans (congrArg some (by kernel_rfl))
  f283 := Tryz.func112.trans (congrArg some (by kernel_rfl))
  f284 := Tryz.func113.trans (congrArg some (by kernel_rfl))
  f285 := Tryz.func114.trans (congrArg some (by kernel_rfl))
  f286 := Tryz.func115.trans (congrArg some (by kernel_rfl))
  f316 := Tryz.func80.trans (congrArg some (by kernel_rfl))
  f317 := Tryz.func134.trans (congrArg some (by kernel_rfl))
  f318 := Tryz.func136.trans (congrArg some (by kernel_rfl))
  f319 := Tryz.func137.trans (congrArg some (by kernel_rfl))
  f320 := Tryz.func138.trans (congrArg some (by kernel_rfl))
  f337 := Tryz.func148.trans (congrArg some (by kernel_rfl))
  f338 := Tryz.func149.trans (congrArg some (by kernel_rfl))
  t0 := Tryz.underlying0
  a0 := Tryz.isAgg0
  z0 := Tryz.sizeOf0
  v0 := Tryz.zeroValue0
  t2 := Tryz.underlying2
  a2 := Tryz.isAgg2
  z2 := Tryz.sizeOf2
  v2 := Tryz.zeroValue2
  t3 := Tryz.underlying3
  a3 := Tryz.isAgg3
  z3 := Tryz.sizeOf3
  v3 := Tryz.zeroValue3
  t4 := Tryz.underlying4
  a4 := Tryz.isAgg4
  z4 := Tryz.sizeOf4
  v4 := Tryz.zeroValue4
  t5 := Tryz.underlying5
  a5 := Tryz.isAgg5
  z5 := Tryz.sizeOf5
  v5 := Tryz.zeroValue5
  t9 := Tryz.underlying9
  a9 := Tryz.isAgg9
  z9 := Tryz.sizeOf9
  v9 := Tryz.zeroValue9
  t20 := Tryz.underlying20
  a20 := Tryz.isAgg20
  z20 := Tryz.sizeOf20
  v20 := Tryz.zeroValue20
  t37 := Tryz.underlying71
  a37 := Tryz.isAgg71
  z37 := Tryz.sizeOf71
  v37 := Tryz.zeroValue71
  t46 := Tryz.underlying142
  a46 := Tryz.isAgg142
  z46 := Tryz.sizeOf142
  v46 := Tryz.zeroValue142
  t51 := Tryz.underlying174
  a51 := Tryz.isAgg174
  z51 := Tryz.sizeOf174
  v51 := Tryz.zeroValue174
  t53 := Tryz.underlying118
  a53 := Tryz.isAgg118
  z53 := Tryz.sizeOf118
  v53 := Tryz.zeroValue118
  t75 := Tryz.underlying96
  a75 := Tryz.isAgg96
  z75 := Tryz.sizeOf96
  v75 := Tryz.zeroValue96
  t127 := Tryz.underlying121
  a127 := Tryz.isAgg121
  z127 := Tryz.sizeOf121
  v127 := Tryz.zeroValue121
  t143 := Tryz.underlying197
  a143 := Tryz.isAgg197
  z143 := Tryz.sizeOf197
  v143 := Tryz.zeroValue197
  t145 := Tryz.underlying199
  a145 := Tryz.isAgg199
  z145 := Tryz.sizeOf199
  v145 := Tryz.zeroValue199
  t167 := Tryz.underlying168
  a167 := Tryz.isAgg168
  z167 := Tryz.sizeOf168
  v167 := Tryz.zeroValue168
  t168 := Tryz.underlying169
  a168 := Tryz.isAgg169
  z168 := Tryz.sizeOf169
  v168 := Tryz.zeroValue169
  t171 := Tryz.underlying156
  a171 := Tryz.isAgg156
  z171 := Tryz.sizeOf156
  v171 := Tryz.zeroValue156
  t173 := Tryz.underlying159
  a173 := Tryz.isAgg159
  z173 := Tryz.sizeOf159
  v173 := Tryz.zeroValue159
  t210 := Tryz.underlying189
  a210 := Tryz.isAgg189
  z210 := Tryz.sizeOf189
  v210 := Tryz.zeroValue189
  t212 := Tryz.underlying173
  a212 := Tryz.isAgg173
  z212 := Tryz.sizeOf173
  v212 := Tryz.zeroValue173
  t213 := Tryz.underlying175
  a213 := Tryz.isAgg175
  z213 := Tryz.sizeOf175
  t232 := Tryz.underlying200
  a232 := Tryz.isAgg200
  z232 := Tryz.sizeOf200
  v232 := Tryz.zeroValue200
  t233 := Tryz.underlying201
  a233 := Tryz.isAgg201
  z233 := Tryz.sizeOf201
  v233 := Tryz.zeroValue201
  g15 := by kernel_rfl
  g16 := by kernel_rfl
  g17 := by kernel_rfl
  g18 := by kernel_rfl
  g19 := by kernel_rfl
  t80 := Tryz.underlying102
  a80 := Tryz.isAgg102
  z80 := Tryz.sizeOf102
  v80 := Tryz.zeroValue102
  i0 := by kernel_rfl
  i2 := by kernel_rfl
  i3 := by kernel_rfl
  i4 := by kernel_rfl
  i5 := by kernel_rfl
  i9 := by kernel_rfl
  i20 := by kernel_rfl
  i37 := by kernel_rfl
  i46 := by kernel_rfl
  i51 := by kernel_rfl
  i53 := by kernel_rfl
  i75 := by kernel_rfl
  i80 := by kernel_rfl
  i127 := by kernel_rfl
  i143 := by kernel_rfl
  i145 := by kernel_rfl
  i167 := by kernel_rfl
  i168 := by kernel_rfl
  i171 := by kernel_rfl
  i173 := by kernel_rfl
  i210 := by kernel_rfl
  i212 := by kernel_rfl
  i232 := by kernel_rfl
  i233 := by kernel_rfl
  m15 := by kernel_rfl
  m16 := by kernel_rfl
  m17 := by kernel_rfl
  m18 := by kernel_rfl
  m19 := by kernel_rfl
  c0 := by kernel_rfl
  c2 := by kernel_rfl
  c3 := by kernel_rfl
  c4 := by kernel_rfl
  c5 := by kernel_rfl
  c9 := by kernel_rfl
  c20 := by kernel_rfl
  c37 := by kernel_rfl
  c46 := by kernel_rfl
  c51 := by kernel_rfl
  c53 := by kernel_rfl
  c75 := by kernel_rfl
  c80 := by kernel_rfl
  c127 := by kernel_rfl
  c143 := by kernel_rfl
  c145 := by kernel_rfl
  c167 := by kernel_rfl
  c168 := by kernel_rfl
  c171 := by kernel_rfl
  c173 := by kernel_rfl
  c210 := by kernel_rfl
  c212 := by kernel_rfl
  c213 := by kernel_rfl
  c232 := by kernel_rfl
  c233 := by kernel_rfl }
open Go.RowKit in
/-- strconv.toError, at the inner package's ErrSyntax: 'syntaxError(fn, s)' as an error: A *NumError IN A NEW BLOCK. (LAID: no walk: one application.) -/
theorem Tryz.strconv_toError_syntax (fn s : ByteArray) (base bits : Int) (ev : Value) (w : World) (hlim : s.size ≤ 281474976710656) (hv : w.cell? ⟨5, 0, none⟩ = some ev) (hev : ev = .nilIface ∨ ∃ te pe, ev = .iface te pe) :
    Calls Tryz.prog 111 #[.string fn, .string s, .int .i64 base, .int .i64 bits, .iface 168 (.int .i64 2)] w fun e w' => ∃ N, e = .returned (.iface 169 (.pointer (some ⟨N, 0, none⟩))) ∧ w.heap.size ≤ N ∧ w'.heap[N]? = some (.cells #[.string fn, .string s, ev] 189 (0, 0)) ∧ Below w.heap.size w w' := Any.strconv_toError_syntax Tryz.laysC245 fn s base bits ev w hlim hv hev
def Tryz.laysC174_ren : Go.Shelf.Ren := ⟨fun | 174 => 95 | 247 => 110 | 245 => 111 | 287 => 129 | 279 => 130 | 280 => 131 | 281 => 132 | 282 => 133 | 321 => 144 | 322 => 145 | 316 => 80 | 171 => 147 | 205 => 146 | 243 => 155 | 246 => 96 | 283 => 112 | 284 => 113 | 285 => 114 | 286 => 115 | 129 => 135 | 317 => 134 | 318 => 136 | 319 => 137 | 320 => 138 | 337 => 148 | 338 => 149 | n => n, fun | 9 => 9 | 3 => 3 | 2 => 2 | 75 => 96 | 85 => 138 | 4 => 4 | 167 => 168 | 5 => 5 | 53 => 118 | 175 => 153 | 46 => 142 | 168 => 169 | 37 => 71 | 0 => 0 | 210 => 189 | 21 => 21 | 127 => 121 | 145 => 199 | 143 => 197 | 171 => 156 | 173 => 159 | 212 => 173 | 51 => 174 | 20 => 20 | 213 => 175 | 232 => 200 | 233 => 201 | 80 => 102 | n => n, fun | 15 => 5 | 16 => 6 | 17 => 0 | 18 => 7 | 19 => 8 | n => n⟩
theorem Tryz.laysC174 : Go.Proofs.LaysC.n174 Tryz.prog Tryz.laysC174_ren := {
  mixed := by kernel_rfl
  f129 := Tryz.func135.trans (congrArg some (by kernel_rfl))
  f171 := Tryz.func147.trans (congrArg some (by kernel_rfl))
  f174 := Tryz.func95.trans (congrArg some (by kernel_rfl))
  f205 := Tryz.func146.trans (congrArg some (by kernel_rfl))
  f243 := Tryz.func155.trans (congrArg some (by kernel_rfl))
  f245 := Tryz.func111.trans (congrArg some (by kernel_rfl))
  f246 := Tryz.func96.trans (congrArg some (by kernel_rfl))
  f247 := Tryz.func110.trans (congrArg some (by kernel_rfl))
  f279 := Tryz.func130.trans (congrArg some (by kernel_rfl))
  f280 := Tryz.func131.trans (congrArg some (by kernel_rfl))
  f281 := Tryz.func132.trans (congrArg some (by kernel_rfl))
  f282 := Tryz.func133.trans (congrArg some (by kernel_rfl))
  f283 := Tryz.func112.trans (congrArg some (by kernel_rfl))
  f284 := Tryz.func113.trans (congrArg some (by kernel_rfl))
  f285 := Tryz.func114.trans (congrArg some (by kernel_rfl))
  f286 := Tryz.func115.trans (congrArg some (by kernel_rfl))
  f287 := Tryz.func129.trans (congrArg some (by kernel_rfl))
  f316 := Tryz.func80.trans (congrArg some (by kernel_rfl))
  f317 := Tryz.func134.trans (congrArg some (by kernel_rfl))
  f318 := Tryz.func136.trans (congrArg some (by kernel_rfl))
  f319 := Tryz.func137.trans (congrArg some (by kernel_rfl))
  f320 := Tryz.func138.trans (congrArg some (by kernel_rfl))
  f321 := Tryz.func144.trans (congrArg some (by kernel_rfl))
  f322 := Tryz.func145.trans (congrArg some (by kernel_rfl))
  f337 := Tryz.func148.trans (congrArg some (by kernel_rfl))
  f338 := Tryz.func149.trans (congrArg some (by kernel_rfl))
  t0 := Tryz.underlying0
  a0 := Tryz.isAgg0
  z0 := Tryz.sizeOf0
  v0 := Tryz.zeroValue0
  t2 := Tryz.underlying2
  a2 := Tryz.isAgg2
  z2 := Tryz.sizeOf2
  v2 := Tryz.zeroValue2
  t3 := Tryz.underlying3
  a3 := Tryz.isAgg3
  z3 := Tryz.sizeOf3
  v3 := Tryz.zeroValue3
  t4 := Tryz.underlying4
  a4 := Tryz.isAgg4
  z4 := Tryz.sizeOf4
  v4 := Tryz.zeroValue4
  t5 := Tryz.underlying5
  a5 := Tryz.isAgg5
  z5 := Tryz.sizeOf5
  v5 := Tryz.zeroValue5
  t9 := Tryz.underlying9
  a9 := Tryz.isAgg9
  z9 := Tryz.sizeOf9
  v9 := Tryz.zeroValue9
  t20 := Tryz.underlying20
  a20 := Tryz.isAgg20
  z20 := Tryz.sizeOf20
  v20 := Tryz.zeroValue20
  t21 := Tryz.underlying21
  a21 := Tryz.isAgg21
  z21 := Tryz.sizeOf21
  v21 := Tryz.zeroValue21
  t37 := Tryz.underlying71
  a37 := Tryz.isAgg71
  z37 := Tryz.sizeOf71
  v37 := Tryz.zeroValue71
  t46 := Tryz.underlying142
  a46 := Tryz.isAgg142
  z46 := Tryz.sizeOf142
  v46 := Tryz.zeroValue142
  t51 := Tryz.underlying174
  a51 := Tryz.isAgg174
  z51 := Tryz.sizeOf174
  v51 := Tryz.zeroValue174
  t53 := Tryz.underlying118
  a53 := Tryz.isAgg118
  z53 := Tryz.sizeOf118
  v53 := Tryz.zeroValue118
  t75 := Tryz.underlying96
  a75 := Tryz.isAgg96
  z75 := Tryz.sizeOf96
  v75 := Tryz.zeroValue96
  t85 := Tryz.underlying138
  a85 := Tryz.isAgg138
  z85 := Tryz.sizeOf138
  v85 := Tryz.zeroValue138
  t127 := Tryz.underlying121
  a127 := Tryz.isAgg121
  z127 := Tryz.sizeOf121
  v127 := Tryz.zeroValue121
  t143 := Tryz.underlying197
  a143 := Tryz.isAgg197
  z143 := Tryz.sizeOf197
  v143 := Tryz.zeroValue197
  t145 := Tryz.underlying199
  a145 := Tryz.isAgg199
  z145 := Tryz.sizeOf199
  v145 := Tryz.zeroValue199
  t167 := Tryz.underlying168
  a167 := Tryz.isAgg168
  z167 := Tryz.sizeOf168
  v167 := Tryz.zeroValue168
  t168 := Tryz.underlying169
  a168 := Tryz.isAgg169
  z168 := Tryz.sizeOf169
  v168 := Tryz.zeroValue169
  t171 := Tryz.underlying156
  a171 := Tryz.isAgg156
  z171 := Tryz.sizeOf156
  v171 := Tryz.zeroValue156
  t173 := Tryz.underlying159
  a173 := Tryz.isAgg159
  z173 := Tryz.sizeOf159
  v173 := Tryz.zeroValue159
  t175 := Tryz.underlying153
  a175 := Tryz.isAgg153
  z175 := Tryz.sizeOf153
  v175 := Tryz.zeroValue153
  t210 := Tryz.underlying189
  a210 := Tryz.isAgg189
  z210 := Tryz.sizeOf189
  v210 := Tryz.zeroValue189
  t212 := Tryz.underlying173
  a212 := Tryz.isAgg173
  z212 := Tryz.sizeOf173
  v212 := Tryz.zeroValue173
  t213 := Tryz.underlying175
  a213 := Tryz.isAgg175
  z213 := Tryz.sizeOf175
  t232 := Tryz.underlying200
  a232 := Tryz.isAgg200
  z232 := Tryz.sizeOf200
  v232 := Tryz.zeroValue200
  t233 := Tryz.underlying201
  a233 := Tryz.isAgg201
  z233 := Tryz.sizeOf201
  v233 := Tryz.zeroValue201
  g15 := by kernel_rfl
  g16 := by kernel_rfl
  g17 := by kernel_rfl
  g18 := by kernel_rfl
  g19 := by kernel_rfl
  t80 := Tryz.underlying102
  a80 := Tryz.isAgg102
  z80 := Tryz.sizeOf102
  v80 := Tryz.zeroValue102
  i0 := by kernel_rfl
  i2 := by kernel_rfl
  i3 := by kernel_rfl
  i4 := by kernel_rfl
  i5 := by kernel_rfl
  i9 := by kernel_rfl
  i20 := by kernel_rfl
  i21 := by kernel_rfl
  i37 := by kernel_rfl
  i46 := by kernel_rfl
  i51 := by kernel_rfl
  i53 := by kernel_rfl
  i75 := by kernel_rfl
  i80 := by kernel_rfl
  i85 := by kernel_rfl
  i127 := by kernel_rfl
  i143 := by kernel_rfl
  i145 := by kernel_rfl
  i167 := by kernel_rfl
  i168 := by kernel_rfl
  i171 := by kernel_rfl
  i173 := by kernel_rfl
  i175 := by kernel_rfl
  i210 := by kernel_rfl
  i212 := by kernel_rfl
  i232 := by kernel_rfl
  i233 := by kernel_rfl
  m15 := by kernel_rfl
  m16 := by kernel_rfl
  m17 := by kernel_rfl
  m18 := by kernel_rfl
  m19 := by kernel_rfl
  c0 := by kernel_rfl
  c2 := by kernel_rfl
  c3 := by kernel_rfl
  c4 := by kernel_rfl
  c5 := by kernel_rfl
  c9 := by kernel_rfl
  c20 := by kernel_rfl
  c21 := by kernel_rfl
  c37 := by kernel_rfl
  c46 := by kernel_rfl
  c51 := by kernel_rfl
  c53 := by kernel_rfl
  c75 := by kernel_rfl
  c80 := by kernel_rfl
  c85 := by kernel_rfl
  c127 := by kernel_rfl
  c143 := by kernel_rfl
  c145 := by kernel_rfl
  c167 := by kernel_rfl
  c168 := by kernel_rfl
  c171 := by kernel_rfl
  c173 := by kernel_rfl
  c175 := by kernel_rfl
  c210 := by kernel_rfl
  c212 := by kernel_rfl
  c213 := by kernel_rfl
  c232 := by kernel_rfl
  c233 := by kernel_rfl }
open Go.RowKit in
/-- strconv.ParseInt(s, 10, 64), AT EVERY STRING THAT SPELLS AN int64 ('Lib.parseIntB 64 s.data.toList = .ok v'): v, AND NO ERROR. (LAID: no walk: one application.) -/
theorem Tryz.strconv_ParseInt_10_at64_ok (s : ByteArray) (hmax : s.size ≤ 9223372036854775806) (v : Int) (h : Lib.parseIntB 64 s.data.toList = .ok v) (w : World) :
    Calls Tryz.prog 95 #[.string s, .int .i64 10, .int .i64 64] w fun e w' => e = .returned (.tuple #[.int .i64 v, .nilIface]) ∧ (w' = w ∨ ∃ t, w' = Lib.bytesWorld w 5 t) := Any.strconv_ParseInt_10_at64_ok Tryz.laysC174 s hmax v h w
open Go.RowKit in
/-- strconv.ParseInt(s, 10, 64), AT EVERY STRING THAT IS NO DECIMAL NUMERAL: 0, AND AN ERROR THAT IS NOT nil: a *NumError in a new block N: {Func: "ParseInt", Num: s's bytes, Err: what the variable ErrSyntax holds}. Of what was there nothing has turned. (LAID: no walk: one application.) -/
theorem Tryz.strconv_ParseInt_10_at64_syntax (s : ByteArray) (hlim : s.size ≤ 281474976710656) (h1 : ∀ v, Lib.parseIntB 64 s.data.toList ≠ .ok v) (h2 : Lib.parseIntB 64 s.data.toList ≠ .range) (ev : Value) (w : World) (hv : w.cell? ⟨5, 0, none⟩ = some ev) (hev : ev = .nilIface ∨ ∃ te pe, ev = .iface te pe) :
    Calls Tryz.prog 95 #[.string s, .int .i64 10, .int .i64 64] w fun e w' => ∃ N, e = .returned (.tuple #[.int .i64 (0), .iface 169 (.pointer (some ⟨N, 0, none⟩))]) ∧ w.heap.size ≤ N ∧ w'.heap[N]? = some (.cells #[.string ⟨#[80, 97, 114, 115, 101, 73, 110, 116]⟩, .string s, ev] 189 (0, 0)) ∧ Below w.heap.size w w' := Any.strconv_ParseInt_10_at64_syntax Tryz.laysC174 s hlim (by cases e : Lib.parseIntB 64 s.data.toList with | ok v => exact absurd e (h1 v) | range => exact absurd e h2 | _ => rfl) ev w hv hev
open Go.RowKit in
/-- strconv.ParseInt(s, 10, 64), AT EVERY NUMERAL THAT NO int64 HOLDS: THE GREATEST OR THE LEAST int64, BY THE SIGN ('Lib.intSat 64'), AND AN ERROR THAT IS NOT nil: a *NumError in a new block N: {Func: "ParseInt", Num: s's bytes, Err: what the variable ErrRange holds}. Of what was there nothing has turned. (LAID: no walk: one application.) -/
theorem Tryz.strconv_ParseInt_10_at64_range (s : ByteArray) (hlim : s.size ≤ 281474976710656) (h : Lib.parseIntB 64 s.data.toList = .range) (ev : Value) (w : World) (hv : w.cell? ⟨6, 0, none⟩ = some ev) (hev : ev = .nilIface ∨ ∃ te pe, ev = .iface te pe) :
    Calls Tryz.prog 95 #[.string s, .int .i64 10, .int .i64 64] w fun e w' => ∃ N, e = .returned (.tuple #[.int .i64 (Lib.intSat 64 s.data.toList), .iface 169 (.pointer (some ⟨N, 0, none⟩))]) ∧ w.heap.size ≤ N ∧ w'.heap[N]? = some (.cells #[.string ⟨#[80, 97, 114, 115, 101, 73, 110, 116]⟩, .string s, ev] 189 (0, 0)) ∧ Below w.heap.size w w' := Any.strconv_ParseInt_10_at64_range Tryz.laysC174 s hlim h ev w hv hev

end Go.Proofs
end

/-! ## text ExtPU -/
section
namespace Go.Proofs.YtpkbhfdfgapmlaaGreatDoor.Pr
open Go.RowKit Go.Proofs.YtpkbhfdfgapmlaaGreatDoorW.PrintWords Go.Proofs.YtpkbhfdfgapmlaaGreatDoorW.PrintLast Go.Proofs.YtpkbhfdfgapmlaaGreatDoorW.PrintMore
set_option linter.unusedVariables false
set_option linter.unusedSimpArgs false
/-- A hexadecimal digit's worth, either case. -/
def hexV (c : UInt8) : Option Nat :=
  if 48 ≤ c.toNat ∧ c.toNat ≤ 57 then some (c.toNat - 48) else if 97 ≤ c.toNat ∧ c.toNat ≤ 102 then some (c.toNat - 87) else if 65 ≤ c.toNat ∧ c.toNat ≤ 70 then some (c.toNat - 55) else none
def resH : Nat → List UInt8 → Option Nat
  | acc, [] => some acc
  | acc, c :: r => match hexV c with
    | none => none
    | some x => resH (16 * acc + x) r
/-- strconv.ParseUint(s, 16, 8) of two bytes. -/
def strconv_ParseUint.f (a0 : ByteArray) (a1 a2 : Int) : Option (Int × Option Int) :=
  if a1 = 16 ∧ a2 = 8 ∧ a0.size = 2 then
    match resH 0 a0.data.toList with
    | some u => some ((u : Int), none)
    | none => some (0, some 0)
  else none
def lowN (n : Nat) : Nat := ((strconv_lower.f (n : Int)).getD 0).toNat
theorem low_tab : ∀ n : Nat, n < 256 → lowN n < 256 ∧ strconv_lower.f (n : Int) = some (lowN n : Int) ∧
    ((48 ≤ n ∧ n ≤ 57 ∧ hexV (UInt8.ofNat n) = some (n - 48)) ∨ (¬ (48 ≤ n ∧ n ≤ 57) ∧ n ≠ 95 ∧ 97 ≤ lowN n ∧ lowN n ≤ 102 ∧ hexV (UInt8.ofNat n) = some (lowN n - 87)) ∨ (¬ (48 ≤ n ∧ n ≤ 57) ∧ n ≠ 95 ∧ 103 ≤ lowN n ∧ lowN n ≤ 122 ∧ hexV (UInt8.ofNat n) = none) ∨
     (¬ (48 ≤ n ∧ n ≤ 57) ∧ (lowN n < 97 ∨ 122 < lowN n) ∧ hexV (UInt8.ofNat n) = none)) := by decide +kernel
/-- What the inner ParseUint hands back. -/
def puRes : Option Nat → Value
  | some u => .tuple #[.int .u64 (u : Int), .nilIface]
  | none => .tuple #[.int .u64 0, .iface 168 (.int .i64 2)]
theorem hexV_lt {c : UInt8} {x : Nat} (h : hexV c = some x) : x < 16 := by
  unfold hexV at h
  split at h
  · injection h with h; omega
  · split at h
    · injection h with h; omega
    · split at h
      · injection h with h; omega
      · cases h
theorem lower_same (z r : Int) (h : strconv_lower.f z = some r) (w : World) : Calls Tryz.prog 144 #[.int .u8 z] w fun e w' => e = .returned (.int .u8 r) ∧ w' = w := by
  obtain rfl := Option.some.inj h
  go_enter Tryz.func144, Tryz.ntmps144
  go_wp2
  go_ret
  exact ⟨rfl, rfl⟩
set_option maxHeartbeats 4000000 in
set_option maxRecDepth 100000 in
theorem pu_inner (t : ByteArray) (ht : t.size = 2) (w : World) :
    Calls Tryz.prog 129 #[.string t, .int .i64 16, .int .i64 8] w fun e w' => e = .returned (puRes (resH 0 t.data.toList)) ∧ w' = Lib.bytesWorld w 5 t := by
  have hemp : t.toList.isEmpty = false := by
    rw [← decide_eq_emptyBytes]
    exact decide_eq_false (fun h => by rw [h] at ht; cases ht)
  have hcv := Lib.run_convert_string_bytes (P := Tryz.prog) w 9 71 5 t (u := .string) Tryz.underlying9 Tryz.underlying71 Tryz.underlying5
  have hB : ∀ j, j < t.size → (Lib.bytesWorld w 5 t).cell? ⟨w.heap.size, j, none⟩ = some (.int .u8 (t.data.toList.getD j 0).toNat) := fun j hj => Lib.bytesWorld_cell w 5 t j hj
  obtain ⟨W1, hW1⟩ : ∃ W1, W1 = Lib.bytesWorld w 5 t := ⟨_, rfl⟩
  rw [← hW1] at hcv hB ⊢
  clear hW1
  obtain ⟨bs, hL⟩ : ∃ bs, bs = t.data.toList := ⟨_, rfl⟩
  have hLn : bs.length = t.size := by rw [hL, Lib.size_eq]
  rw [← hL] at hB ⊢
  clear hL
  have hmv : IntKind.u64.wrap (IntKind.u64.wrap 256 - 1) = 255 := by
    rw [IntKind.wrap_u64, IntKind.wrap_u64]
    decide
  go_enter Tryz.func129, Tryz.ntmps129
  go_wp2
  go_loop [12, 13, 101] (fun vu vn vi => ∃ (k acc : Nat) (a : Int), vu = .bool false ∧ vn = .int .u64 a ∧ vi = .int .i64 k ∧ k ≤ t.size ∧ Hid (a = (acc : Int) ∧ (k = 0 → acc = 0) ∧ (k ≤ 1 → acc ≤ 15) ∧ acc ≤ 255 ∧ resH 0 bs = resH acc (bs.drop k)))
    (fun _ _ vi => t.size - (intOf vi).toNat)
  case atStart => exact ⟨0, 0, 0, rfl, rfl, rfl, by omega, rfl, by omega, by omega, by omega, rfl⟩
  case round =>
    obtain ⟨k, acc, a, rfl, rfl, rfl, hk, hh⟩ := hrel
    obtain ⟨ha, hacc0, hacc1, hacc, hdec⟩ := hh.out
    clear hh
    have a0 : 0 ≤ a := by omega
    have a1 : a ≤ 255 := by omega
    by_cases hkn : k < t.size
    · have hc := hB k hkn
      have hdrop : bs.drop k = bs[k]'(by omega) :: bs.drop (k + 1) := List.drop_eq_getElem_cons (by omega)
      have hget : bs.getD k 0 = bs[k]'(by omega) := by simp [List.getD, List.getElem?_eq_getElem (show k < bs.length by omega)]
      rw [hdrop] at hdec
      rw [hget] at hc
      generalize bs[k]'(by omega) = c at hc hdec
      have hc256 : c.toNat < 256 := c.toNat_lt
      clear hB hdrop hget
      have a15 : acc ≤ 15 := hacc1 (by omega)
      have a15' : a ≤ 15 := by omega
      have hofn : UInt8.ofNat c.toNat = c := by simp
      obtain ⟨hL1, hL2, hcs⟩ := low_tab c.toNat hc256
      rw [hofn] at hcs
      have hz0 : 0 ≤ (c.toNat : Int) := by omega
      have hz1 : (c.toNat : Int) ≤ 255 := by omega
      have HLOW := Aside0.mk hL2
      clear hL2 hofn
      generalize lowN c.toNat = L at *
      rcases hcs with ⟨hd0, hd1, hv⟩ | ⟨hnd, hu, hl0, hl1, hv⟩ | ⟨hnd, hu, hl0, hl1, hv⟩ | ⟨hnd, hl, hv⟩
      · -- a digit
        have hF : resH acc (c :: bs.drop (k + 1)) = resH (16 * acc + (c.toNat - 48)) (bs.drop (k + 1)) := by simp only [resH, hv]
        have HN : Hid (a * 16 + ((c.toNat : Int) - 48) = ((16 * acc + (c.toNat - 48) : Nat) : Int) ∧ (k + 1 = 0 → 16 * acc + (c.toNat - 48) = 0) ∧ (k + 1 ≤ 1 → 16 * acc + (c.toNat - 48) ≤ 15) ∧ 16 * acc + (c.toNat - 48) ≤ 255 ∧ resH 0 bs = resH (16 * acc + (c.toNat - 48)) (bs.drop (k + 1))) :=
          Lib.hid ⟨by omega, by omega, by intro h; have := hacc0 (by omega); omega, by omega, hdec.trans hF⟩
        clear hF hdec ha hacc hacc0 hacc1 hv hL1
        go_wp2
        exact ⟨⟨k + 1, 16 * acc + (c.toNat - 48), a * 16 + ((c.toNat : Int) - 48), rfl, rfl, congrArg (Value.int .i64) (by omega), by omega, HN⟩, by simp [intOf]; omega⟩
      · have hF : resH acc (c :: bs.drop (k + 1)) = resH (16 * acc + (L - 87)) (bs.drop (k + 1)) := by simp only [resH, hv]
        have HN : Hid (a * 16 + ((L : Int) - 97 + 10) = ((16 * acc + (L - 87) : Nat) : Int) ∧ (k + 1 = 0 → 16 * acc + (L - 87) = 0) ∧ (k + 1 ≤ 1 → 16 * acc + (L - 87) ≤ 15) ∧ 16 * acc + (L - 87) ≤ 255 ∧ resH 0 bs = resH (16 * acc + (L - 87)) (bs.drop (k + 1))) :=
          Lib.hid ⟨by omega, by omega, by intro h; have := hacc0 (by omega); omega, by omega, hdec.trans hF⟩
        have hu2 : ((c.toNat : Int) == 95) = false := beq_eq_false_iff_ne.mpr (by omega)
        have hnd2 : ((48 : Int) ≤ (c.toNat : Int)) = False ∨ ((48 : Int) ≤ (c.toNat : Int)) = True ∧ ((c.toNat : Int) ≤ 57) = False := by
          by_cases h : 48 ≤ c.toNat
          · exact .inr ⟨eq_true (by omega), eq_false (by omega)⟩
          · exact .inl (eq_false (by omega))
        clear hF hdec ha hacc hacc0 hacc1 hv hL1 hnd hu
        rcases hnd2 with h1 | ⟨h1, h2⟩
        all_goals
          go_wp2_with (go_at_call 144; (with_reducible refine (lower_same _ _ HLOW.out _).mono ?_); rintro e w' ⟨rfl, rfl⟩)
          exact ⟨⟨k + 1, 16 * acc + (L - 87), a * 16 + ((L : Int) - 97 + 10), rfl, rfl, congrArg (Value.int .i64) (by omega), by omega, HN⟩, by simp [intOf]; omega⟩
      · have hF : resH acc (c :: bs.drop (k + 1)) = none := by simp only [resH, hv]
        rw [hF] at hdec
        have HD := Aside0.mk hdec
        have hu2 : ((c.toNat : Int) == 95) = false := beq_eq_false_iff_ne.mpr (by omega)
        have hnd2 : ((48 : Int) ≤ (c.toNat : Int)) = False ∨ ((48 : Int) ≤ (c.toNat : Int)) = True ∧ ((c.toNat : Int) ≤ 57) = False := by
          by_cases h : 48 ≤ c.toNat
          · exact .inr ⟨eq_true (by omega), eq_false (by omega)⟩
          · exact .inl (eq_false (by omega))
        clear hF hdec ha hacc hacc0 hacc1 hv hL1 hnd hu
        rcases hnd2 with h1 | ⟨h1, h2⟩
        all_goals
          go_wp2_with (go_at_call 144; (with_reducible refine (lower_same _ _ HLOW.out _).mono ?_); rintro e w' ⟨rfl, rfl⟩)
          go_ret2
          exact ⟨by rw [HD.out]; rfl, rfl⟩
      · have hF : resH acc (c :: bs.drop (k + 1)) = none := by simp only [resH, hv]
        rw [hF] at hdec
        have HD := Aside0.mk hdec
        have hnd2 : ((48 : Int) ≤ (c.toNat : Int)) = False ∨ ((48 : Int) ≤ (c.toNat : Int)) = True ∧ ((c.toNat : Int) ≤ 57) = False := by
          by_cases h : 48 ≤ c.toNat
          · exact .inr ⟨eq_true (by omega), eq_false (by omega)⟩
          · exact .inl (eq_false (by omega))
        have hu2 : ((c.toNat : Int) == 95) = true ∨ ((c.toNat : Int) == 95) = false := by cases ((c.toNat : Int) == 95) <;> simp
        have hl2 : ((97 : Int) ≤ (L : Int)) = False ∨ ((97 : Int) ≤ (L : Int)) = True ∧ ((L : Int) ≤ 122) = False := by
          by_cases h : 97 ≤ L
          · exact .inr ⟨eq_true (by omega), eq_false (by omega)⟩
          · exact .inl (eq_false (by omega))
        clear hF hdec ha hacc hacc0 hacc1 hv hL1 hnd hl
        generalize (c.toNat : Int) = z at *
        rcases hnd2 with h1 | ⟨h1, h2⟩
        all_goals rcases hl2 with h3 | ⟨h3, h4⟩
        all_goals rcases hu2 with h5 | h5
        all_goals
          go_wp2_with (go_at_call 144; (with_reducible refine (lower_same _ _ HLOW.out _).mono ?_); rintro e w' ⟨rfl, rfl⟩)
          go_ret2
          exact ⟨by rw [HD.out]; rfl, rfl⟩
    · have hkk : k = t.size := by omega
      subst hkk
      have hF : resH acc (bs.drop t.size) = some acc := by rw [List.drop_eq_nil_of_le (by omega)]; rfl
      rw [hF] at hdec
      subst ha
      clear hacc hF a0 a1 hacc0 hacc1
      go_wp2
      go_ret2
      exact ⟨by first | rfl | (rw [hdec]; rfl), rfl⟩
set_option maxHeartbeats 1000000 in
theorem strconv_ParseUint.calls (a0 : ByteArray) (a1 a2 : Int) (r1 : Int) (r2 : Option Int) (w : World) (HL_LSyn : Aside0 (LSyn w)) (h : strconv_ParseUint.f a0 a1 a2 = some (r1, r2)) :
    Calls Tryz.prog 109 #[.string a0, .int .i64 a1, .int .i64 a2] w fun e w' => ∃ ev_, ErrX r2 ev_ ∧ e = .returned (.tuple #[.int .u64 r1, ev_]) ∧ Below w.heap.size w w' := by
  unfold strconv_ParseUint.f at h
  by_cases hc : a1 = 16 ∧ a2 = 8 ∧ a0.size = 2
  · rw [if_pos hc] at h
    obtain ⟨rfl, rfl, hs⟩ := hc
    have hin := pu_inner a0 hs w
    cases hr : resH 0 a0.data.toList with
    | some u =>
      rw [hr] at h hin
      obtain ⟨rfl, rfl⟩ := Prod.mk.inj (Option.some.inj h)
      have HI := Aside0.mk (show Calls Tryz.prog 129 #[.string a0, .int .i64 16, .int .i64 8] w fun e w' => e = .returned (.tuple #[.int .u64 (u : Int), .nilIface]) ∧ w' = Lib.bytesWorld w 5 a0 from hin)
      clear h hin hr hs
      go_enter Tryz.func109, Tryz.ntmps109
      go_wp2_with (go_at_call 129; (refine HI.out.mono ?_); rintro e w1 ⟨rfl, hw1⟩)
      go_ret2
      exact ⟨_, rfl, rfl, Lib.bytesWorld_below _ _ _⟩
    | none =>
      rw [hr] at h hin
      obtain ⟨rfl, rfl⟩ := Prod.mk.inj (Option.some.inj h)
      have HI := Aside0.mk (show Calls Tryz.prog 129 #[.string a0, .int .i64 16, .int .i64 8] w fun e w' => e = .returned (.tuple #[.int .u64 0, .iface 168 (.int .i64 2)]) ∧ w' = Lib.bytesWorld w 5 a0 from hin)
      have hb : Below w.heap.size w (Lib.bytesWorld w 5 a0) := Lib.bytesWorld_below _ _ _
      have hs2 : a0.size ≤ 281474976710656 := by omega
      obtain ⟨g, ev, hg, hv, hev⟩ := HL_LSyn.out.below hb
      have hgg : g = 5 := Option.some.inj (hg.symm.trans (by kernel_rfl))
      subst hgg
      have HV := Aside0.mk hv
      have HE := Aside0.mk hev
      have HB := Aside0.mk hb
      clear h hin hr hs hg hv hev HL_LSyn hb
      generalize Lib.bytesWorld w 5 a0 = W1 at *
      go_enter Tryz.func109, Tryz.ntmps109
      go_upto_region 3 with (go_at_call 129; (refine HI.out.mono ?_); rintro e w1 ⟨rfl, rfl⟩)
      go_wp2_with (go_at_call 111; (refine (Tryz.strconv_toError_syntax _ a0 16 8 ev _ hs2 HV.out HE.out).mono ?_); rintro e w2 ⟨N, rfl, h1, h2, h3⟩)
      go_ret2
      exact ⟨_, ⟨N, rfl⟩, rfl, HB.out.trans (h3.mono HB.out.size)⟩
  · rw [if_neg hc] at h
    cases h
end Go.Proofs.YtpkbhfdfgapmlaaGreatDoor.Pr
end

/-! ## text Prx5 -/
section
namespace Go.Proofs.YtpkbhfdfgapmlaaGreatDoor.Pr
open Go.RowKit Go.Proofs.YtpkbhfdfgapmlaaGreatDoorW.PrintWords Go.Proofs.YtpkbhfdfgapmlaaGreatDoorW.PrintLast Go.Proofs.YtpkbhfdfgapmlaaGreatDoorW.PrintMore
attribute [local go_sem] max2_int min2_int max_two min_two max_three min_three max_four min_four   -- for this text's walks alone
attribute [local go_sem high] Go.Proofs.YtpkbhfdfgapmlaaGreatDoor.isSome_setCell
set_option maxRecDepth 100000
set_option linter.unusedVariables false
set_option linter.unusedSimpArgs false

/-! ### value_unquoted: function 94 -/
mutual
def value_unquoted.j0 : Nat → ByteArray → Bool → Option (ByteArray × Bool)
  | 0, _, _ => none
  | k + 1, x0, x23 => if x23 = true then (some ((⟨#[]⟩ : ByteArray), false)) else (if 1 ≤ (wrap64 ((x0.size : Int) - 1)) then (if (wrap64 ((x0.size : Int) - 1)) ≤ (x0.size : Int) then (value_unquoted.l0 k (x0.extract 1 ((wrap64 ((x0.size : Int) - 1)) : Int).toNat) ([] : List Int) 0) else (none)) else (none))
def value_unquoted.l0 : Nat → ByteArray → List Int → Int → Option (ByteArray × Bool)
  | 0, _, _, _ => none
  | k + 1, x0, x4, x5 => if x5 < (x0.size : Int) then (if 0 ≤ x5 then (if (bt x0 x5) = 92 then (if (wrap64 (x5 + 1)) ≥ (x0.size : Int) then (some ((⟨#[]⟩ : ByteArray), false)) else (if 0 ≤ (wrap64 (x5 + 1)) then (if (wrap64 (x5 + 1)) < (x0.size : Int) then (if (bt x0 (wrap64 (x5 + 1))) = 110 then (if x4.length < 140737488355328 then (value_unquoted.l0 k x0 (x4 ++ [10]) (wrap64 ((wrap64 (x5 + 1)) + 1))) else (none)) else (if (bt x0 (wrap64 (x5 + 1))) = 116 then (if x4.length < 140737488355328 then (value_unquoted.l0 k x0 (x4 ++ [9]) (wrap64 ((wrap64 (x5 + 1)) + 1))) else (none)) else (if (bt x0 (wrap64 (x5 + 1))) = 120 then (if (wrap64 ((wrap64 (x5 + 1)) + 2)) ≥ (x0.size : Int) then (some ((⟨#[]⟩ : ByteArray), false)) else (if 0 ≤ (wrap64 ((wrap64 (x5 + 1)) + 1)) then (if (wrap64 ((wrap64 (x5 + 1)) + 1)) ≤ (wrap64 ((wrap64 (x5 + 1)) + 3)) then (if (wrap64 ((wrap64 (x5 + 1)) + 3)) ≤ (x0.size : Int) then ((strconv_ParseUint.f (x0.extract ((wrap64 ((wrap64 (x5 + 1)) + 1)) : Int).toNat ((wrap64 ((wrap64 (x5 + 1)) + 3)) : Int).toNat) 16 8).bind fun bt141 => (if bt141.2.isNone = true then (if x4.length < 140737488355328 then (value_unquoted.l0 k x0 (x4 ++ [(bt141.1) % 256]) (wrap64 ((wrap64 ((wrap64 (x5 + 1)) + 2)) + 1))) else (none)) else (some ((⟨#[]⟩ : ByteArray), false)))) else (none)) else (none)) else (none))) else (if x4.length < 140737488355328 then (value_unquoted.l0 k x0 (x4 ++ [bt x0 (wrap64 (x5 + 1))]) (wrap64 ((wrap64 (x5 + 1)) + 1))) else (none))))) else (none)) else (none))) else (if x4.length < 140737488355328 then (value_unquoted.l0 k x0 (x4 ++ [bt x0 x5]) (wrap64 (x5 + 1))) else (none))) else (none)) else (some (strOfNums x4, true))
end
def value_unquoted.f (k : Nat) (a0 : ByteArray) : Option (ByteArray × Bool) := if (a0.size : Int) < 2 then (value_unquoted.j0 k a0 true) else (if 0 < (a0.size : Int) then (if (bt a0 0) = 34 then (if 0 ≤ (wrap64 ((a0.size : Int) - 1)) then (if (wrap64 ((a0.size : Int) - 1)) < (a0.size : Int) then (value_unquoted.j0 k a0 ((bt a0 (wrap64 ((a0.size : Int) - 1))) != 34)) else (none)) else (none)) else (value_unquoted.j0 k a0 true)) else (none))
set_option maxRecDepth 100000 in
theorem value_unquoted.j0_zero : ∀ y0 y1, value_unquoted.j0 0 y0 y1 = none := fun _ _ => rfl
set_option maxRecDepth 100000 in
theorem value_unquoted.l0_zero : ∀ y0 y1 y2, value_unquoted.l0 0 y0 y1 y2 = none := fun _ _ _ => rfl
set_option maxRecDepth 100000 in
theorem value_unquoted.mono_l : ∀ k, (∀ y0 y1, LeO (value_unquoted.j0 k y0 y1) (value_unquoted.j0 (k + 1) y0 y1)) ∧ (∀ y0 y1 y2, LeO (value_unquoted.l0 k y0 y1 y2) (value_unquoted.l0 (k + 1) y0 y1 y2))
  | 0 => ⟨fun _ _ r h => by (unfold value_unquoted.j0 at h; cases h), fun _ _ _ r h => by (unfold value_unquoted.l0 at h; cases h)⟩
  | k + 1 => by
    obtain ⟨ih0, ih1⟩ := value_unquoted.mono_l k
    refine ⟨?_, ?_⟩
    · intro y0 y1
      unfold value_unquoted.j0
      repeat' first
      | (with_reducible exact ih0 _ _)
      | (with_reducible exact ih1 _ _ _)
      | (with_reducible exact LeO.refl _)
      | (with_reducible exact LeO.none _)
      | (with_reducible refine LeO.ite ?_ ?_)
      | (with_reducible refine LeO.bind ?_ (fun _ => ?_))
      | exact ih0 _ _
      | exact ih1 _ _ _
      | exact LeO.none _
      | refine LeO.ite ?_ ?_
      | refine LeO.bind ?_ (fun _ => ?_)
    · intro y0 y1 y2
      unfold value_unquoted.l0
      repeat' first
      | (with_reducible exact ih0 _ _)
      | (with_reducible exact ih1 _ _ _)
      | (with_reducible exact LeO.refl _)
      | (with_reducible exact LeO.none _)
      | (with_reducible refine LeO.ite ?_ ?_)
      | (with_reducible refine LeO.bind ?_ (fun _ => ?_))
      | exact ih0 _ _
      | exact ih1 _ _ _
      | exact LeO.none _
      | refine LeO.ite ?_ ?_
      | refine LeO.bind ?_ (fun _ => ?_)
set_option maxRecDepth 100000 in
theorem value_unquoted.mono : ∀ a0 k, LeO (value_unquoted.f k a0) (value_unquoted.f (k + 1) a0) := by
  intro a0 k
  obtain ⟨ih0, ih1⟩ := value_unquoted.mono_l k
  unfold value_unquoted.f
  repeat' first
      | (with_reducible exact ih0 _ _)
      | (with_reducible exact ih1 _ _ _)
      | (with_reducible exact LeO.refl _)
      | (with_reducible exact LeO.none _)
      | (with_reducible refine LeO.ite ?_ ?_)
      | (with_reducible refine LeO.bind ?_ (fun _ => ?_))
      | exact ih0 _ _
      | exact ih1 _ _ _
      | exact LeO.none _
      | refine LeO.ite ?_ ?_
      | refine LeO.bind ?_ (fun _ => ?_)
set_option maxHeartbeats 8000000 in
set_option maxRecDepth 100000 in
theorem value_unquoted.calls (k : Nat) (a0 : ByteArray) (r1 : ByteArray) (r2 : Bool) (w : World) (HL_LSyn : Aside0 (LSyn w)) (h : value_unquoted.f k a0 = some (r1, r2)) :
    Calls Tryz.prog 94 #[.string a0] w fun e w' => e = .returned (.tuple #[.string r1, .bool r2]) ∧ Below w.heap.size w w' := by
  have hu96 := Tryz.underlying96
  have HB := Aside0.mk (Below.refl w.heap.size w)
  have H : (if (a0.size : Int) < 2 then (value_unquoted.j0 k a0 true) else (if 0 < (a0.size : Int) then (if (bt a0 0) = 34 then (if 0 ≤ (wrap64 ((a0.size : Int) - 1)) then (if (wrap64 ((a0.size : Int) - 1)) < (a0.size : Int) then (value_unquoted.j0 k a0 ((bt a0 (wrap64 ((a0.size : Int) - 1))) != 34)) else (none)) else (none)) else (value_unquoted.j0 k a0 true)) else (none))) = some (r1, r2) := h
  clear h
  have HC2 := Aside0.mk H
  clear H
  go_enter Tryz.func94, Tryz.ntmps94
  go_upto_region 1 with (fail)
  go_cut [23] (fun v23 wc => ∃ (kq : Nat) (x23_1 : Bool), v23 = .bool x23_1 ∧ Aside0 (value_unquoted.j0 kq a0 x23_1 = some (r1, r2)) ∧ Aside0 (kq ≤ k) ∧ Aside0 (Below w.heap.size w wc))
  case first =>
    have H := HC2.out
    clear HC2
    by_cases c3 : (a0.size : Int) < 2
    · rw [if_pos c3] at H
      have c3b0 : decide ((a0.size : Int) < 2) = true := decide_eq_true c3
      have c3b1 : decide (a0.size < 2) = true := decide_eq_true (by omega)
      clear c3
      (first | rw [c3b0] | (simp only [i64_w, i32_w, IntKind.wrap_u8, IntKind.wrap_u16, IntKind.wrap_u32]; rw [c3b0]) | skip)
      have H' := Aside0.mk H
      clear H
      go_wp2
      go_meet
      case rel => exact ⟨_, (true), (by first | rfl | (simp; done) | (simp [*]; done) | (simp; unfold wrap64; omega) | (congr 1; (try rw [Bool.eq_iff_iff]); simp [List.isEmpty_iff]; done)), H', ⟨by first | omega | exact Nat.le_refl _⟩, ⟨hbT HB.out⟩⟩
    · rw [if_neg c3] at H
      have c3b0 : decide ((a0.size : Int) < 2) = false := decide_eq_false c3
      have c3b1 : decide (a0.size < 2) = false := decide_eq_false (by omega)
      clear c3
      (first | rw [c3b0] | (simp only [i64_w, i32_w, IntKind.wrap_u8, IntKind.wrap_u16, IntKind.wrap_u32]; rw [c3b0]) | skip)
      by_cases c4 : 0 < (a0.size : Int)
      · rw [if_pos c4] at H
        have c4b0 : decide (0 < (a0.size : Int)) = true := decide_eq_true c4
        have c4b1 : decide (0 < a0.size) = true := decide_eq_true (by omega)
        clear c4
        by_cases c6 : (bt a0 0) = 34
        · rw [if_pos c6] at H
          have c6b0 : ((bt a0 0) == 34) = true := beq_iff_eq.mpr c6
          have c6b1 : ((bt a0 0) != 34) = false := bne_eq_false_iff_eq.mpr c6
          clear c6
          obtain ⟨ji7, hji7⟩ : ∃ j_ : Int, (wrap64 ((a0.size : Int) - 1)) = j_ := ⟨_, rfl⟩
          replace H : (if 0 ≤ (ji7) then (if (ji7) < (a0.size : Int) then (value_unquoted.j0 k a0 ((bt a0 (ji7)) != 34)) else (none)) else (none)) = some (r1, r2) := by first | (rw [hji7] at H; exact H) | (simp only [hji7] at H ⊢; exact H)
          have hji7w : (IntKind.i64.wrap ((a0.size : Int) - 1)) = ji7 := (i64_w _).trans hji7
          by_cases c8 : 0 ≤ (ji7)
          · rw [if_pos c8] at H
            have c8b0 : decide (0 ≤ (ji7)) = true := decide_eq_true c8
            clear c8
            by_cases c9 : (ji7) < (a0.size : Int)
            · rw [if_pos c9] at H
              have c9b0 : decide ((ji7) < (a0.size : Int)) = true := decide_eq_true c9
              clear c9
              have H' := Aside0.mk H
              clear H
              have p5 : 0 ≤ (0 : Int) := (by omega)
              have q5 : 0 < a0.size := (by have : (0 : Int) < (a0.size : Int) := of_decide_eq_true (by first | (with_reducible assumption) | assumption); omega)
              have hx5 : ∀ h : 0 < a0.size, ((a0[0]'h).toNat : Int) = bt a0 0 := bt_at a0 0
              clear p5
              have qi5 : (0 < (a0.size : Int)) = True := eq_true (of_decide_eq_true (by first | (with_reducible assumption) | assumption))
              replace q5 := eq_true q5
              have p10 : 0 ≤ ((ji7) : Int) := of_decide_eq_true (by first | (with_reducible assumption) | assumption)
              have q10 : (ji7) < (a0.size : Int) := of_decide_eq_true (by first | (with_reducible assumption) | assumption)
              have hx10 := bt_at a0 (ji7)
              replace p10 := eq_true p10
              replace q10 := eq_true q10
              go_wp2
              go_meet
              case rel => exact ⟨_, (((bt a0 (ji7)) != 34)), (by first | rfl | (simp; done) | (simp only [← hji7] <;> (first | rfl | (simp; done))) | (simp [*]; done)), H', ⟨by first | omega | exact Nat.le_refl _⟩, ⟨hbT HB.out⟩⟩
            · rw [if_neg c9] at H
              exact absurd H (by simp)
          · rw [if_neg c8] at H
            exact absurd H (by simp)
        · rw [if_neg c6] at H
          have c6b0 : ((bt a0 0) == 34) = false := beq_eq_false_iff_ne.mpr c6
          have c6b1 : ((bt a0 0) != 34) = true := bne_iff_ne.mpr c6
          have H' := Aside0.mk H
          clear H
          have p5 : 0 ≤ (0 : Int) := (by omega)
          have q5 : 0 < a0.size := (by have : (0 : Int) < (a0.size : Int) := of_decide_eq_true (by first | (with_reducible assumption) | assumption); omega)
          have hx5 : ∀ h : 0 < a0.size, ((a0[0]'h).toNat : Int) = bt a0 0 := bt_at a0 0
          clear p5
          have qi5 : (0 < (a0.size : Int)) = True := eq_true (of_decide_eq_true (by first | (with_reducible assumption) | assumption))
          replace q5 := eq_true q5
          go_wp2
          go_meet
          case rel => exact ⟨_, (true), (by first | rfl | (simp; done) | (simp [*]; done) | (simp; unfold wrap64; omega) | (congr 1; (try rw [Bool.eq_iff_iff]); simp [List.isEmpty_iff]; done)), H', ⟨by first | omega | exact Nat.le_refl _⟩, ⟨hbT HB.out⟩⟩
      · rw [if_neg c4] at H
        exact absurd H (by simp)
  case rest =>
    clear HC2
    try clear p1
    try clear q1
    try clear hx1
    try clear p2
    try clear c3
    try clear c3b0
    try clear c3b1
    try clear c4
    try clear c4b0
    try clear c4b1
    try clear p5
    try clear q5
    try clear hx5
    try clear qi5
    try clear c6
    try clear c6b0
    try clear c6b1
    try clear p6
    try clear c8
    try clear c8b0
    try clear c9
    try clear c9b0
    try clear p10
    try clear q10
    try clear hx10
    try clear p10
    try clear p5
    try clear q10
    try clear q5
    obtain ⟨kq, x23_1, rfl, HA, HJ1, HB⟩ := hcut
    cases kq with
    | zero => (have HA2 := HA.out; clear HA; revert HA2; rw [value_unquoted.j0_zero]; intro h_; cases h_)
    | succ kj1 =>
      have H := HA.out
      clear HA
      simp only [value_unquoted.j0] at H
      by_cases c11 : x23_1 = true
      · subst c11
        have H1 : (some ((⟨#[]⟩ : ByteArray), false)) = some (r1, r2) := by rw [if_pos rfl] at H; exact H
        clear H
        have H := H1
        clear H1
        simp only [Option.some.injEq, Prod.mk.injEq] at H
        obtain ⟨rfl, rfl⟩ := H
        go_wp2
        go_ret2
        exact ⟨by first | rfl | (simp [errW_none, errW_some] <;> rfl) | (simp [*, errW_none, errW_some] <;> rfl), hbT HB.out⟩
      · replace c11 := Bool.eq_false_iff.mpr c11
        subst c11
        have H1 : (if 1 ≤ (wrap64 ((a0.size : Int) - 1)) then (if (wrap64 ((a0.size : Int) - 1)) ≤ (a0.size : Int) then (value_unquoted.l0 kj1 (a0.extract 1 ((wrap64 ((a0.size : Int) - 1)) : Int).toNat) ([] : List Int) 0) else (none)) else (none)) = some (r1, r2) := by rw [if_neg (show ¬ (false = true) by decide)] at H; exact H
        clear H
        have H := H1
        clear H1
        by_cases c12 : 1 ≤ (wrap64 ((a0.size : Int) - 1))
        · rw [if_pos c12] at H
          have c12b0 := eq_true c12
          have c12b1 : decide (1 ≤ (wrap64 ((a0.size : Int) - 1))) = true := decide_eq_true c12
          clear c12
          by_cases c13 : (wrap64 ((a0.size : Int) - 1)) ≤ (a0.size : Int)
          · rw [if_pos c13] at H
            have c13b0 := eq_true c13
            have c13b1 : decide ((wrap64 ((a0.size : Int) - 1)) ≤ (a0.size : Int)) = true := decide_eq_true c13
            clear c13
            have H' := Aside0.mk H
            clear H
            go_wp2
            generalize (a0.extract 1 ((wrap64 ((a0.size : Int) - 1)) : Int).toNat) = gs0_2 at *
            go_loopg [4, 5] kj1 (fun kq v4 v5 w' => ∃ (x4_2 : List Int) (x5_2 : Int), v5 = .int .i64 x5_2 ∧ Aside0 (value_unquoted.l0 kq gs0_2 x4_2 x5_2 = some (r1, r2)) ∧ Aside0 (kq ≤ kj1) ∧ Aside0 (Kd.R (Kd.int .u8) 5 w' w.heap.size (fun _ => True) v4 x4_2) ∧ Aside0 (Below w.heap.size w w'))
            case atStart => exact ⟨(([] : List Int)), (0), (by first | rfl | (simp; done) | (simp [*]; done) | (simp; unfold wrap64; omega) | (congr 1; (try rw [Bool.eq_iff_iff]); simp [List.isEmpty_iff]; done)), H', ⟨Nat.le_refl _⟩, ⟨by first | exact Kd.R_nil _ _ _ _ _ | exact Kd.N_nil _ _ _ _ _ | exact Kd.V_nil _ _ _ _ _ | exact Kd.Q_nil _ _ _ _ _ | exact Kd.S_nil _ _ _ _ _⟩, ⟨hbT HB.out⟩⟩
            case round =>
              clear H'
              try clear c1
              try clear p1
              try clear q1
              try clear hx1
              try clear p2
              try clear c3
              try clear c3b0
              try clear c3b1
              try clear c4
              try clear c4b0
              try clear c4b1
              try clear p5
              try clear q5
              try clear hx5
              try clear qi5
              try clear c6
              try clear c6b0
              try clear c6b1
              try clear p6
              try clear c8
              try clear c8b0
              try clear c9
              try clear c9b0
              try clear p10
              try clear q10
              try clear hx10
              try clear c11
              try clear c12
              try clear c12b0
              try clear c12b1
              try clear c13
              try clear c13b0
              try clear c13b1
              try clear p1
              try clear p10
              try clear p2
              try clear p5
              try clear p6
              try clear q1
              try clear q10
              try clear q5
              obtain ⟨x4_2, x5_2, rfl, HA, HK2, HO_4, HB⟩ := hrel
              cases gk with
              | zero => (have HA2 := HA.out; clear HA; revert HA2; rw [value_unquoted.l0_zero]; intro h_; cases h_)
              | succ k2 =>
                have H := HA.out
                clear HA
                simp only [value_unquoted.l0] at H
                by_cases c14 : x5_2 < (gs0_2.size : Int)
                · rw [if_pos c14] at H
                  have c14b0 : decide (x5_2 < (gs0_2.size : Int)) = true := decide_eq_true c14
                  clear c14
                  by_cases c15 : 0 ≤ x5_2
                  · rw [if_pos c15] at H
                    have c15b0 : decide (0 ≤ x5_2) = true := decide_eq_true c15
                    clear c15
                    by_cases c17 : (bt gs0_2 x5_2) = 92
                    · rw [if_pos c17] at H
                      have c17b0 : ((bt gs0_2 x5_2) == 92) = true := beq_iff_eq.mpr c17
                      have c17b1 : ((bt gs0_2 x5_2) != 92) = false := bne_eq_false_iff_eq.mpr c17
                      clear c17
                      by_cases c18 : (wrap64 (x5_2 + 1)) ≥ (gs0_2.size : Int)
                      · rw [if_pos c18] at H
                        have c18b0 : decide ((gs0_2.size : Int) ≤ (wrap64 (x5_2 + 1))) = true := decide_eq_true c18
                        clear c18
                        simp only [Option.some.injEq, Prod.mk.injEq] at H
                        obtain ⟨rfl, rfl⟩ := H
                        have p16 : 0 ≤ (x5_2 : Int) := of_decide_eq_true (by first | (with_reducible assumption) | assumption)
                        have q16 : x5_2 < (gs0_2.size : Int) := of_decide_eq_true (by first | (with_reducible assumption) | assumption)
                        have hx16 := bt_at gs0_2 x5_2
                        replace p16 := eq_true p16
                        replace q16 := eq_true q16
                        go_wp2
                        go_ret2
                        exact ⟨by first | rfl | (simp [errW_none, errW_some] <;> rfl) | (simp [*, errW_none, errW_some] <;> rfl), hbT HB.out⟩
                      · rw [if_neg c18] at H
                        have c18b0 : decide ((gs0_2.size : Int) ≤ (wrap64 (x5_2 + 1))) = false := decide_eq_false c18
                        clear c18
                        obtain ⟨ji19, hji19⟩ : ∃ j_ : Int, (wrap64 (x5_2 + 1)) = j_ := ⟨_, rfl⟩
                        replace H : (if 0 ≤ (ji19) then (if (ji19) < (gs0_2.size : Int) then (if (bt gs0_2 (ji19)) = 110 then (if x4_2.length < 140737488355328 then (value_unquoted.l0 k2 gs0_2 (x4_2 ++ [10]) (wrap64 ((ji19) + 1))) else (none)) else (if (bt gs0_2 (ji19)) = 116 then (if x4_2.length < 140737488355328 then (value_unquoted.l0 k2 gs0_2 (x4_2 ++ [9]) (wrap64 ((ji19) + 1))) else (none)) else (if (bt gs0_2 (ji19)) = 120 then (if (wrap64 ((ji19) + 2)) ≥ (gs0_2.size : Int) then (some ((⟨#[]⟩ : ByteArray), false)) else (if 0 ≤ (wrap64 ((ji19) + 1)) then (if (wrap64 ((ji19) + 1)) ≤ (wrap64 ((ji19) + 3)) then (if (wrap64 ((ji19) + 3)) ≤ (gs0_2.size : Int) then ((strconv_ParseUint.f (gs0_2.extract ((wrap64 ((ji19) + 1)) : Int).toNat ((wrap64 ((ji19) + 3)) : Int).toNat) 16 8).bind fun bt141 => (if bt141.2.isNone = true then (if x4_2.length < 140737488355328 then (value_unquoted.l0 k2 gs0_2 (x4_2 ++ [(bt141.1) % 256]) (wrap64 ((wrap64 ((ji19) + 2)) + 1))) else (none)) else (some ((⟨#[]⟩ : ByteArray), false)))) else (none)) else (none)) else (none))) else (if x4_2.length < 140737488355328 then (value_unquoted.l0 k2 gs0_2 (x4_2 ++ [bt gs0_2 (ji19)]) (wrap64 ((ji19) + 1))) else (none))))) else (none)) else (none)) = some (r1, r2) := by first | (rw [hji19] at H; exact H) | (simp only [hji19] at H ⊢; exact H)
                        (try rw [hji19] at c18b0)
                        have hji19w : (IntKind.i64.wrap (x5_2 + 1)) = ji19 := (i64_w _).trans hji19
                        by_cases c20 : 0 ≤ (ji19)
                        · rw [if_pos c20] at H
                          have c20b0 : decide (0 ≤ (ji19)) = true := decide_eq_true c20
                          clear c20
                          by_cases c21 : (ji19) < (gs0_2.size : Int)
                          · rw [if_pos c21] at H
                            have c21b0 : decide ((ji19) < (gs0_2.size : Int)) = true := decide_eq_true c21
                            clear c21
                            by_cases c23 : (bt gs0_2 (ji19)) = 110
                            · rw [if_pos c23] at H
                              have c23b0 : ((bt gs0_2 (ji19)) == 110) = true := beq_iff_eq.mpr c23
                              have c23b1 : ((bt gs0_2 (ji19)) != 110) = false := bne_eq_false_iff_eq.mpr c23
                              clear c23
                              by_cases c24 : x4_2.length < 140737488355328
                              · rw [if_pos c24] at H
                                have LMc24 := Aside0.mk c24
                                clear c24
                                obtain ⟨y135, hy135⟩ : ∃ y_ : List Int, y_ = (x4_2 ++ [10]) := ⟨_, rfl⟩
                                replace H : (value_unquoted.l0 k2 gs0_2 y135 (wrap64 ((ji19) + 1))) = some (r1, r2) := by first | (rw [hy135]; with_reducible exact H) | (have H2_ := (Option.bind_some _ _).symm.trans H; rw [hy135]; with_reducible exact H2_) | (have H2_ := (Option.bind_some _ _).symm.trans H; with_reducible exact H2_) | with_reducible exact H | (rw [hy135]; exact H) | exact H
                                have Ny135 := Aside0.mk hy135
                                clear hy135
                                have H' := Aside0.mk H
                                clear H
                                have p16 : 0 ≤ (x5_2 : Int) := of_decide_eq_true (by first | (with_reducible assumption) | assumption)
                                have q16 : x5_2 < (gs0_2.size : Int) := of_decide_eq_true (by first | (with_reducible assumption) | assumption)
                                have hx16 := bt_at gs0_2 x5_2
                                replace p16 := eq_true p16
                                replace q16 := eq_true q16
                                have p22 : 0 ≤ ((ji19) : Int) := of_decide_eq_true (by first | (with_reducible assumption) | assumption)
                                have q22 : (ji19) < (gs0_2.size : Int) := of_decide_eq_true (by first | (with_reducible assumption) | assumption)
                                have hx22 := bt_at gs0_2 (ji19)
                                replace p22 := eq_true p22
                                replace q22 := eq_true q22
                                go_wp2_with (first | ((with_reducible refine gate_builtin (b := .append) (xs := #[.tmp 62, .tmp 63]) rfl ?_); (try (refine gate_guard (by rfl) ?_; dsimp only)); at_builtin; refine Kd.R_append (Kd.int .u8) (w0 := w) w.heap.size rfl (.tmp 62) (.tmp 63) 71 5 (.int .u8 0) 1 rfl Tryz.underlying71 info5 rfl (by decide) (by omega) u4 x4_2 10 [.int .u8 10] (fun _ => True) (fun _ => False) rfl rfl ?aP (fun _ hk => hk.elim) ?aF ?aO ?aB ?aS ?aL ?_; (case aP => exact rfl); (case aB => exact (hbT HB.out)); (case aF => exact (fun _ _ => trivial)); (case aO => exact (by (with_reducible repeat (first | apply Kd.R_alloc | apply Kd.R_drewN | apply Kd.R_drew)); exact HO_4.out)); (case aS => exact (below_size (hbT HB.out))); (case aL => have := LMc24.out; omega); intro v136 w25 ho hb hg hat; rw [← Ny135.out] at ho; have n0_ := Aside0.mk (hb); have n1_ := Aside0.mk (ho); clear HB; clear HO_4; have HB := n0_; have HO137 := n1_; clear n0_ n1_; clear ho hb hg hat))
                                go_roundg k2
                                case measure => have := HJ1.out; have := HK2.out; omega
                                case rel => exact ⟨(y135), (wrap64 ((ji19) + 1)), (by first | rfl | (simp; done) | (simp only [← hji19] <;> (first | rfl | (simp; done))) | (simp [*]; done)), H', ⟨by have := HJ1.out; have := HK2.out; omega⟩, ⟨by (with_reducible repeat (first | apply Kd.R_alloc | apply Kd.R_drewN | apply Kd.R_drew)); exact HO137.out⟩, ⟨hbT HB.out⟩⟩
                              · rw [if_neg c24] at H
                                exact absurd H (by simp)
                            · rw [if_neg c23] at H
                              have c23b0 : ((bt gs0_2 (ji19)) == 110) = false := beq_eq_false_iff_ne.mpr c23
                              have c23b1 : ((bt gs0_2 (ji19)) != 110) = true := bne_iff_ne.mpr c23
                              by_cases c26 : (bt gs0_2 (ji19)) = 116
                              · rw [if_pos c26] at H
                                have c26b0 : ((bt gs0_2 (ji19)) == 116) = true := beq_iff_eq.mpr c26
                                have c26b1 : ((bt gs0_2 (ji19)) != 116) = false := bne_eq_false_iff_eq.mpr c26
                                clear c26
                                by_cases c27 : x4_2.length < 140737488355328
                                · rw [if_pos c27] at H
                                  have LMc27 := Aside0.mk c27
                                  clear c27
                                  obtain ⟨y138, hy138⟩ : ∃ y_ : List Int, y_ = (x4_2 ++ [9]) := ⟨_, rfl⟩
                                  replace H : (value_unquoted.l0 k2 gs0_2 y138 (wrap64 ((ji19) + 1))) = some (r1, r2) := by first | (rw [hy138]; with_reducible exact H) | (have H2_ := (Option.bind_some _ _).symm.trans H; rw [hy138]; with_reducible exact H2_) | (have H2_ := (Option.bind_some _ _).symm.trans H; with_reducible exact H2_) | with_reducible exact H | (rw [hy138]; exact H) | exact H
                                  have Ny138 := Aside0.mk hy138
                                  clear hy138
                                  have H' := Aside0.mk H
                                  clear H
                                  have p16 : 0 ≤ (x5_2 : Int) := of_decide_eq_true (by first | (with_reducible assumption) | assumption)
                                  have q16 : x5_2 < (gs0_2.size : Int) := of_decide_eq_true (by first | (with_reducible assumption) | assumption)
                                  have hx16 := bt_at gs0_2 x5_2
                                  replace p16 := eq_true p16
                                  replace q16 := eq_true q16
                                  have p22 : 0 ≤ ((ji19) : Int) := of_decide_eq_true (by first | (with_reducible assumption) | assumption)
                                  have q22 : (ji19) < (gs0_2.size : Int) := of_decide_eq_true (by first | (with_reducible assumption) | assumption)
                                  have hx22 := bt_at gs0_2 (ji19)
                                  replace p22 := eq_true p22
                                  replace q22 := eq_true q22
                                  go_wp2_with (first | ((with_reducible refine gate_builtin (b := .append) (xs := #[.tmp 67, .tmp 68]) rfl ?_); (try (refine gate_guard (by rfl) ?_; dsimp only)); at_builtin; refine Kd.R_append (Kd.int .u8) (w0 := w) w.heap.size rfl (.tmp 67) (.tmp 68) 71 5 (.int .u8 0) 1 rfl Tryz.underlying71 info5 rfl (by decide) (by omega) u4 x4_2 9 [.int .u8 9] (fun _ => True) (fun _ => False) rfl rfl ?aP (fun _ hk => hk.elim) ?aF ?aO ?aB ?aS ?aL ?_; (case aP => exact rfl); (case aB => exact (hbT HB.out)); (case aF => exact (fun _ _ => trivial)); (case aO => exact (by (with_reducible repeat (first | apply Kd.R_alloc | apply Kd.R_drewN | apply Kd.R_drew)); exact HO_4.out)); (case aS => exact (below_size (hbT HB.out))); (case aL => have := LMc27.out; omega); intro v139 w28 ho hb hg hat; rw [← Ny138.out] at ho; have n0_ := Aside0.mk (hb); have n1_ := Aside0.mk (ho); clear HB; clear HO_4; have HB := n0_; have HO140 := n1_; clear n0_ n1_; clear ho hb hg hat))
                                  go_roundg k2
                                  case measure => have := HJ1.out; have := HK2.out; omega
                                  case rel => exact ⟨(y138), (wrap64 ((ji19) + 1)), (by first | rfl | (simp; done) | (simp only [← hji19] <;> (first | rfl | (simp; done))) | (simp [*]; done)), H', ⟨by have := HJ1.out; have := HK2.out; omega⟩, ⟨by (with_reducible repeat (first | apply Kd.R_alloc | apply Kd.R_drewN | apply Kd.R_drew)); exact HO140.out⟩, ⟨hbT HB.out⟩⟩
                                · rw [if_neg c27] at H
                                  exact absurd H (by simp)
                              · rw [if_neg c26] at H
                                have c26b0 : ((bt gs0_2 (ji19)) == 116) = false := beq_eq_false_iff_ne.mpr c26
                                have c26b1 : ((bt gs0_2 (ji19)) != 116) = true := bne_iff_ne.mpr c26
                                by_cases c29 : (bt gs0_2 (ji19)) = 120
                                · rw [if_pos c29] at H
                                  have c29b0 : ((bt gs0_2 (ji19)) == 120) = true := beq_iff_eq.mpr c29
                                  have c29b1 : ((bt gs0_2 (ji19)) != 120) = false := bne_eq_false_iff_eq.mpr c29
                                  clear c29
                                  by_cases c30 : (wrap64 ((ji19) + 2)) ≥ (gs0_2.size : Int)
                                  · rw [if_pos c30] at H
                                    have c30b0 : decide ((gs0_2.size : Int) ≤ (wrap64 ((ji19) + 2))) = true := decide_eq_true c30
                                    clear c30
                                    simp only [Option.some.injEq, Prod.mk.injEq] at H
                                    obtain ⟨rfl, rfl⟩ := H
                                    have p16 : 0 ≤ (x5_2 : Int) := of_decide_eq_true (by first | (with_reducible assumption) | assumption)
                                    have q16 : x5_2 < (gs0_2.size : Int) := of_decide_eq_true (by first | (with_reducible assumption) | assumption)
                                    have hx16 := bt_at gs0_2 x5_2
                                    replace p16 := eq_true p16
                                    replace q16 := eq_true q16
                                    have p22 : 0 ≤ ((ji19) : Int) := of_decide_eq_true (by first | (with_reducible assumption) | assumption)
                                    have q22 : (ji19) < (gs0_2.size : Int) := of_decide_eq_true (by first | (with_reducible assumption) | assumption)
                                    have hx22 := bt_at gs0_2 (ji19)
                                    replace p22 := eq_true p22
                                    replace q22 := eq_true q22
                                    go_wp2
                                    go_ret2
                                    exact ⟨by first | rfl | (simp [errW_none, errW_some] <;> rfl) | (simp only [← hji19]; first | rfl | (simp [errW_none, errW_some] <;> rfl)) | (simp [*, errW_none, errW_some] <;> rfl), hbT HB.out⟩
                                  · rw [if_neg c30] at H
                                    have c30b0 : decide ((gs0_2.size : Int) ≤ (wrap64 ((ji19) + 2))) = false := decide_eq_false c30
                                    clear c30
                                    obtain ⟨ji31, hji31⟩ : ∃ j_ : Int, (wrap64 ((ji19) + 1)) = j_ := ⟨_, rfl⟩
                                    replace H : (if 0 ≤ (ji31) then (if (ji31) ≤ (wrap64 ((ji19) + 3)) then (if (wrap64 ((ji19) + 3)) ≤ (gs0_2.size : Int) then ((strconv_ParseUint.f (gs0_2.extract ((ji31) : Int).toNat ((wrap64 ((ji19) + 3)) : Int).toNat) 16 8).bind fun bt141 => (if bt141.2.isNone = true then (if x4_2.length < 140737488355328 then (value_unquoted.l0 k2 gs0_2 (x4_2 ++ [(bt141.1) % 256]) (wrap64 ((wrap64 ((ji19) + 2)) + 1))) else (none)) else (some ((⟨#[]⟩ : ByteArray), false)))) else (none)) else (none)) else (none)) = some (r1, r2) := by first | (rw [hji31] at H; exact H) | (simp only [hji31] at H ⊢; exact H)
                                    have hji31w : (IntKind.i64.wrap ((ji19) + 1)) = ji31 := (i64_w _).trans hji31
                                    by_cases c32 : 0 ≤ (ji31)
                                    · rw [if_pos c32] at H
                                      have c32b0 := eq_true c32
                                      have c32b1 : decide (0 ≤ (ji31)) = true := decide_eq_true c32
                                      clear c32
                                      by_cases c33 : (ji31) ≤ (wrap64 ((ji19) + 3))
                                      · rw [if_pos c33] at H
                                        have c33b0 := eq_true c33
                                        have c33b1 : decide ((ji31) ≤ (wrap64 ((ji19) + 3))) = true := decide_eq_true c33
                                        by_cases c34 : (wrap64 ((ji19) + 3)) ≤ (gs0_2.size : Int)
                                        · rw [if_pos c34] at H
                                          have c34b0 := eq_true c34
                                          have c34b1 : decide ((wrap64 ((ji19) + 3)) ≤ (gs0_2.size : Int)) = true := decide_eq_true c34
                                          replace H := Option.bind_eq_some_iff.mp H
                                          obtain ⟨⟨t141, t142⟩, A350, H⟩ := H
                                          replace H : (if t142.isNone = true then (if x4_2.length < 140737488355328 then (value_unquoted.l0 k2 gs0_2 (x4_2 ++ [(t141) % 256]) (wrap64 ((wrap64 ((ji19) + 2)) + 1))) else (none)) else (some ((⟨#[]⟩ : ByteArray), false))) = some (r1, r2) := H
                                          have A35 := Aside0.mk A350
                                          clear A350
                                          rcases t142 with _ | q143
                                          · have H1 : (if x4_2.length < 140737488355328 then (value_unquoted.l0 k2 gs0_2 (x4_2 ++ [(t141) % 256]) (wrap64 ((wrap64 ((ji19) + 2)) + 1))) else (none)) = some (r1, r2) := by rw [if_pos (show (none : Option Int).isNone = true by rfl)] at H; exact H
                                            clear H
                                            have H := H1
                                            clear H1
                                            try simp only [errW_none, errW_some]
                                            by_cases c36 : x4_2.length < 140737488355328
                                            · rw [if_pos c36] at H
                                              have LMc36 := Aside0.mk c36
                                              clear c36
                                              obtain ⟨y144, hy144⟩ : ∃ y_ : List Int, y_ = (x4_2 ++ [(t141) % 256]) := ⟨_, rfl⟩
                                              replace H : (value_unquoted.l0 k2 gs0_2 y144 (wrap64 ((wrap64 ((ji19) + 2)) + 1))) = some (r1, r2) := by first | (rw [hy144]; with_reducible exact H) | (have H2_ := (Option.bind_some _ _).symm.trans H; rw [hy144]; with_reducible exact H2_) | (have H2_ := (Option.bind_some _ _).symm.trans H; with_reducible exact H2_) | with_reducible exact H | (rw [hy144]; exact H) | exact H
                                              have Ny144 := Aside0.mk hy144
                                              clear hy144
                                              have H' := Aside0.mk H
                                              clear H
                                              have p16 : 0 ≤ (x5_2 : Int) := of_decide_eq_true (by first | (with_reducible assumption) | assumption)
                                              have q16 : x5_2 < (gs0_2.size : Int) := of_decide_eq_true (by first | (with_reducible assumption) | assumption)
                                              have hx16 := bt_at gs0_2 x5_2
                                              replace p16 := eq_true p16
                                              replace q16 := eq_true q16
                                              have p22 : 0 ≤ ((ji19) : Int) := of_decide_eq_true (by first | (with_reducible assumption) | assumption)
                                              have q22 : (ji19) < (gs0_2.size : Int) := of_decide_eq_true (by first | (with_reducible assumption) | assumption)
                                              have hx22 := bt_at gs0_2 (ji19)
                                              replace p22 := eq_true p22
                                              replace q22 := eq_true q22
                                              go_wp2_with (first | ((with_reducible refine gate_callee (f := 109) rfl ?_); refine goesL_ (some 84) rfl rfl Tryz.func109 (by kernel_rfl) rfl #[.string (gs0_2.extract ((ji31) : Int).toNat ((wrap64 ((ji19) + 3)) : Int).toNat), .int .i64 16, .int .i64 8] rfl (by (try simp only [List.map_toArray, List.map_cons, List.map_nil]); first | done | (simp only [hji19, hji31]; rfl) | rfl | (simp only [List.length_drop, List.length_take]; rfl)) ?_; (with_reducible refine (strconv_ParseUint.calls (gs0_2.extract ((ji31) : Int).toNat ((wrap64 ((ji19) + 3)) : Int).toNat) 16 8 t141 none _ ?side1 A35.out).mono ?_); (case side1 => first | (with_reducible exact HL_LSyn) | exact ⟨LSyn.below HL_LSyn.out (hbT HB.out)⟩); rintro e w37 ⟨ev_, hev_, rfl, hb⟩; refine ⟨_, rfl, ?_⟩; (first | obtain rfl := ErrX_none hev_ | obtain ⟨N_, rfl⟩ := ErrX_some hev_); replace HO_4 := Aside0.mk (Kd.R_below (by (with_reducible repeat (first | apply Kd.R_alloc | apply Kd.R_drewN | apply Kd.R_drew)); exact HO_4.out) hb); replace HB := bsA HB hb; (try clear hb); (try clear hb2); (try clear hk); (try clear hi)) | ((with_reducible refine gate_builtin (b := .append) (xs := #[.tmp 89, .tmp 92]) rfl ?_); (try (refine gate_guard (by rfl) ?_; dsimp only)); at_builtin; refine Kd.R_append (Kd.int .u8) (w0 := w) w.heap.size rfl (.tmp 89) (.tmp 92) 71 5 (.int .u8 0) 1 rfl Tryz.underlying71 info5 rfl (by decide) (by omega) u4 x4_2 ((t141) % 256) [.int .u8 ((t141) % 256)] (fun _ => True) (fun _ => False) rfl rfl ?aP (fun _ hk => hk.elim) ?aF ?aO ?aB ?aS ?aL ?_; (case aP => exact rfl); (case aB => exact (hbT HB.out)); (case aF => exact (fun _ _ => trivial)); (case aO => exact (by (with_reducible repeat (first | apply Kd.R_alloc | apply Kd.R_drewN | apply Kd.R_drew)); exact HO_4.out)); (case aS => exact (below_size (hbT HB.out))); (case aL => have := LMc36.out; omega); intro v145 w38 ho hb hg hat; rw [← Ny144.out] at ho; have n0_ := Aside0.mk (hb); have n1_ := Aside0.mk (ho); clear HB; clear HO_4; have HB := n0_; have HO146 := n1_; clear n0_ n1_; clear ho hb hg hat))
                                              go_roundg k2
                                              case measure => have := HJ1.out; have := HK2.out; omega
                                              case rel => exact ⟨(y144), (wrap64 ((wrap64 ((ji19) + 2)) + 1)), (by first | rfl | (simp; done) | (simp only [← hji19] <;> (first | rfl | (simp; done))) | (simp [*]; done)), H', ⟨by have := HJ1.out; have := HK2.out; omega⟩, ⟨by (with_reducible repeat (first | apply Kd.R_alloc | apply Kd.R_drewN | apply Kd.R_drew)); exact HO146.out⟩, ⟨hbT HB.out⟩⟩
                                            · rw [if_neg c36] at H
                                              exact absurd H (by simp)
                                          · have H1 : (some ((⟨#[]⟩ : ByteArray), false)) = some (r1, r2) := by rw [if_neg (show ¬ (some q143).isNone = true by simp)] at H; exact H
                                            clear H
                                            have H := H1
                                            clear H1
                                            try simp only [errW_none, errW_some]
                                            simp only [Option.some.injEq, Prod.mk.injEq] at H
                                            obtain ⟨rfl, rfl⟩ := H
                                            have p16 : 0 ≤ (x5_2 : Int) := of_decide_eq_true (by first | (with_reducible assumption) | assumption)
                                            have q16 : x5_2 < (gs0_2.size : Int) := of_decide_eq_true (by first | (with_reducible assumption) | assumption)
                                            have hx16 := bt_at gs0_2 x5_2
                                            replace p16 := eq_true p16
                                            replace q16 := eq_true q16
                                            have p22 : 0 ≤ ((ji19) : Int) := of_decide_eq_true (by first | (with_reducible assumption) | assumption)
                                            have q22 : (ji19) < (gs0_2.size : Int) := of_decide_eq_true (by first | (with_reducible assumption) | assumption)
                                            have hx22 := bt_at gs0_2 (ji19)
                                            replace p22 := eq_true p22
                                            replace q22 := eq_true q22
                                            go_wp2_with (first | ((with_reducible refine gate_callee (f := 109) rfl ?_); refine goesL_ (some 84) rfl rfl Tryz.func109 (by kernel_rfl) rfl #[.string (gs0_2.extract ((ji31) : Int).toNat ((wrap64 ((ji19) + 3)) : Int).toNat), .int .i64 16, .int .i64 8] rfl (by (try simp only [List.map_toArray, List.map_cons, List.map_nil]); first | done | (simp only [hji19, hji31]; rfl) | rfl | (simp only [List.length_drop, List.length_take]; rfl)) ?_; (with_reducible refine (strconv_ParseUint.calls (gs0_2.extract ((ji31) : Int).toNat ((wrap64 ((ji19) + 3)) : Int).toNat) 16 8 t141 (some q143) _ ?side1 A35.out).mono ?_); (case side1 => first | (with_reducible exact HL_LSyn) | exact ⟨LSyn.below HL_LSyn.out (hbT HB.out)⟩); rintro e w39 ⟨ev_, hev_, rfl, hb⟩; refine ⟨_, rfl, ?_⟩; (first | obtain rfl := ErrX_none hev_ | obtain ⟨N_, rfl⟩ := ErrX_some hev_); replace HO_4 := Aside0.mk (Kd.R_below (by (with_reducible repeat (first | apply Kd.R_alloc | apply Kd.R_drewN | apply Kd.R_drew)); exact HO_4.out) hb); replace HB := bsA HB hb; (try clear hb); (try clear hb2); (try clear hk); (try clear hi)))
                                            go_ret2
                                            exact ⟨by first | rfl | (simp [errW_none, errW_some] <;> rfl) | (simp only [← hji19, ← hji31]; first | rfl | (simp [errW_none, errW_some] <;> rfl)) | (simp [*, errW_none, errW_some] <;> rfl), hbT HB.out⟩
                                        · rw [if_neg c34] at H
                                          exact absurd H (by simp)
                                      · rw [if_neg c33] at H
                                        exact absurd H (by simp)
                                    · rw [if_neg c32] at H
                                      exact absurd H (by simp)
                                · rw [if_neg c29] at H
                                  have c29b0 : ((bt gs0_2 (ji19)) == 120) = false := beq_eq_false_iff_ne.mpr c29
                                  have c29b1 : ((bt gs0_2 (ji19)) != 120) = true := bne_iff_ne.mpr c29
                                  by_cases c41 : x4_2.length < 140737488355328
                                  · rw [if_pos c41] at H
                                    have LMc41 := Aside0.mk c41
                                    clear c41
                                    obtain ⟨y147, hy147⟩ : ∃ y_ : List Int, y_ = (x4_2 ++ [bt gs0_2 (ji19)]) := ⟨_, rfl⟩
                                    replace H : (value_unquoted.l0 k2 gs0_2 y147 (wrap64 ((ji19) + 1))) = some (r1, r2) := by first | (rw [hy147]; with_reducible exact H) | (have H2_ := (Option.bind_some _ _).symm.trans H; rw [hy147]; with_reducible exact H2_) | (have H2_ := (Option.bind_some _ _).symm.trans H; with_reducible exact H2_) | with_reducible exact H | (rw [hy147]; exact H) | exact H
                                    have Ny147 := Aside0.mk hy147
                                    clear hy147
                                    have H' := Aside0.mk H
                                    clear H
                                    have p16 : 0 ≤ (x5_2 : Int) := of_decide_eq_true (by first | (with_reducible assumption) | assumption)
                                    have q16 : x5_2 < (gs0_2.size : Int) := of_decide_eq_true (by first | (with_reducible assumption) | assumption)
                                    have hx16 := bt_at gs0_2 x5_2
                                    replace p16 := eq_true p16
                                    replace q16 := eq_true q16
                                    have p22 : 0 ≤ ((ji19) : Int) := of_decide_eq_true (by first | (with_reducible assumption) | assumption)
                                    have q22 : (ji19) < (gs0_2.size : Int) := of_decide_eq_true (by first | (with_reducible assumption) | assumption)
                                    have hx22 := bt_at gs0_2 (ji19)
                                    replace p22 := eq_true p22
                                    replace q22 := eq_true q22
                                    have p40 : 0 ≤ ((ji19) : Int) := of_decide_eq_true (by first | (with_reducible assumption) | assumption)
                                    have q40 : (ji19) < (gs0_2.size : Int) := of_decide_eq_true (by first | (with_reducible assumption) | assumption)
                                    have hx40 := bt_at gs0_2 (ji19)
                                    replace p40 := eq_true p40
                                    replace q40 := eq_true q40
                                    go_wp2_with (first | ((with_reducible refine gate_builtin (b := .append) (xs := #[.tmp 54, .tmp 58]) rfl ?_); (try (refine gate_guard (by rfl) ?_; dsimp only)); at_builtin; refine Kd.R_append (Kd.int .u8) (w0 := w) w.heap.size rfl (.tmp 54) (.tmp 58) 71 5 (.int .u8 0) 1 rfl Tryz.underlying71 info5 rfl (by decide) (by omega) u4 x4_2 (bt gs0_2 (ji19)) [.int .u8 (bt gs0_2 (ji19))] (fun _ => True) (fun _ => False) rfl rfl ?aP (fun _ hk => hk.elim) ?aF ?aO ?aB ?aS ?aL ?_; (case aP => exact rfl); (case aB => exact (hbT HB.out)); (case aF => exact (fun _ _ => trivial)); (case aO => exact (by (with_reducible repeat (first | apply Kd.R_alloc | apply Kd.R_drewN | apply Kd.R_drew)); exact HO_4.out)); (case aS => exact (below_size (hbT HB.out))); (case aL => have := LMc41.out; omega); intro v148 w42 ho hb hg hat; rw [← Ny147.out] at ho; have n0_ := Aside0.mk (hb); have n1_ := Aside0.mk (ho); clear HB; clear HO_4; have HB := n0_; have HO149 := n1_; clear n0_ n1_; clear ho hb hg hat))
                                    go_roundg k2
                                    case measure => have := HJ1.out; have := HK2.out; omega
                                    case rel => exact ⟨(y147), (wrap64 ((ji19) + 1)), (by first | rfl | (simp; done) | (simp only [← hji19] <;> (first | rfl | (simp; done))) | (simp [*]; done)), H', ⟨by have := HJ1.out; have := HK2.out; omega⟩, ⟨by (with_reducible repeat (first | apply Kd.R_alloc | apply Kd.R_drewN | apply Kd.R_drew)); exact HO149.out⟩, ⟨hbT HB.out⟩⟩
                                  · rw [if_neg c41] at H
                                    exact absurd H (by simp)
                          · rw [if_neg c21] at H
                            exact absurd H (by simp)
                        · rw [if_neg c20] at H
                          exact absurd H (by simp)
                    · rw [if_neg c17] at H
                      have c17b0 : ((bt gs0_2 x5_2) == 92) = false := beq_eq_false_iff_ne.mpr c17
                      have c17b1 : ((bt gs0_2 x5_2) != 92) = true := bne_iff_ne.mpr c17
                      by_cases c44 : x4_2.length < 140737488355328
                      · rw [if_pos c44] at H
                        have LMc44 := Aside0.mk c44
                        clear c44
                        obtain ⟨y132, hy132⟩ : ∃ y_ : List Int, y_ = (x4_2 ++ [bt gs0_2 x5_2]) := ⟨_, rfl⟩
                        replace H : (value_unquoted.l0 k2 gs0_2 y132 (wrap64 (x5_2 + 1))) = some (r1, r2) := by first | (rw [hy132]; with_reducible exact H) | (have H2_ := (Option.bind_some _ _).symm.trans H; rw [hy132]; with_reducible exact H2_) | (have H2_ := (Option.bind_some _ _).symm.trans H; with_reducible exact H2_) | with_reducible exact H | (rw [hy132]; exact H) | exact H
                        have Ny132 := Aside0.mk hy132
                        clear hy132
                        have H' := Aside0.mk H
                        clear H
                        have p16 : 0 ≤ (x5_2 : Int) := of_decide_eq_true (by first | (with_reducible assumption) | assumption)
                        have q16 : x5_2 < (gs0_2.size : Int) := of_decide_eq_true (by first | (with_reducible assumption) | assumption)
                        have hx16 := bt_at gs0_2 x5_2
                        replace p16 := eq_true p16
                        replace q16 := eq_true q16
                        have p43 : 0 ≤ (x5_2 : Int) := of_decide_eq_true (by first | (with_reducible assumption) | assumption)
                        have q43 : x5_2 < (gs0_2.size : Int) := of_decide_eq_true (by first | (with_reducible assumption) | assumption)
                        have hx43 := bt_at gs0_2 x5_2
                        replace p43 := eq_true p43
                        replace q43 := eq_true q43
                        go_wp2_with (first | ((with_reducible refine gate_builtin (b := .append) (xs := #[.tmp 39, .tmp 43]) rfl ?_); (try (refine gate_guard (by rfl) ?_; dsimp only)); at_builtin; refine Kd.R_append (Kd.int .u8) (w0 := w) w.heap.size rfl (.tmp 39) (.tmp 43) 71 5 (.int .u8 0) 1 rfl Tryz.underlying71 info5 rfl (by decide) (by omega) u4 x4_2 (bt gs0_2 x5_2) [.int .u8 (bt gs0_2 x5_2)] (fun _ => True) (fun _ => False) rfl rfl ?aP (fun _ hk => hk.elim) ?aF ?aO ?aB ?aS ?aL ?_; (case aP => exact rfl); (case aB => exact (hbT HB.out)); (case aF => exact (fun _ _ => trivial)); (case aO => exact (by (with_reducible repeat (first | apply Kd.R_alloc | apply Kd.R_drewN | apply Kd.R_drew)); exact HO_4.out)); (case aS => exact (below_size (hbT HB.out))); (case aL => have := LMc44.out; omega); intro v133 w45 ho hb hg hat; rw [← Ny132.out] at ho; have n0_ := Aside0.mk (hb); have n1_ := Aside0.mk (ho); clear HB; clear HO_4; have HB := n0_; have HO134 := n1_; clear n0_ n1_; clear ho hb hg hat))
                        go_roundg k2
                        case measure => have := HJ1.out; have := HK2.out; omega
                        case rel => exact ⟨(y132), (wrap64 (x5_2 + 1)), (by first | rfl | (simp; done) | (simp [*]; done) | (simp; unfold wrap64; omega) | (congr 1; (try rw [Bool.eq_iff_iff]); simp [List.isEmpty_iff]; done)), H', ⟨by have := HJ1.out; have := HK2.out; omega⟩, ⟨by (with_reducible repeat (first | apply Kd.R_alloc | apply Kd.R_drewN | apply Kd.R_drew)); exact HO134.out⟩, ⟨hbT HB.out⟩⟩
                      · rw [if_neg c44] at H
                        exact absurd H (by simp)
                  · rw [if_neg c15] at H
                    exact absurd H (by simp)
                · rw [if_neg c14] at H
                  have c14b0 : decide (x5_2 < (gs0_2.size : Int)) = false := decide_eq_false c14
                  clear c14
                  simp only [Option.some.injEq, Prod.mk.injEq] at H
                  obtain ⟨rfl, rfl⟩ := H
                  have hcv46 := own_string (P := Tryz.prog) Tryz.underlying71 Tryz.underlying5 Tryz.underlying9 (Kd.own_of_R HO_4.out)
                  go_wp2
                  go_ret2
                  exact ⟨by first | rfl | (simp [errW_none, errW_some] <;> rfl) | (simp [*, errW_none, errW_some] <;> rfl), hbT HB.out⟩
          · rw [if_neg c13] at H
            exact absurd H (by simp)
        · rw [if_neg c12] at H
          exact absurd H (by simp)

end Go.Proofs.YtpkbhfdfgapmlaaGreatDoor.Pr
end

/-! ## text Prx3 -/
section
namespace Go.Proofs.YtpkbhfdfgapmlaaGreatDoor.Pr
open Go.RowKit Go.Proofs.YtpkbhfdfgapmlaaGreatDoorW.PrintWords Go.Proofs.YtpkbhfdfgapmlaaGreatDoorW.PrintLast Go.Proofs.YtpkbhfdfgapmlaaGreatDoorW.PrintMore
attribute [local go_sem] max2_int min2_int max_two min_two max_three min_three max_four min_four   -- for this text's walks alone
attribute [local go_sem high] Go.Proofs.YtpkbhfdfgapmlaaGreatDoor.isSome_setCell
set_option maxRecDepth 100000
set_option linter.unusedVariables false
set_option linter.unusedSimpArgs false

/-! ### value_escape: function 97 -/
def value_escape.j0 : Nat → Int → Int → Bool → Option (Int × Bool)
  | 0, _, _, _ => none
  | k + 1, x0, x4, x5 => if x5 = true then (some (x0, true)) else (if x4 = 10 then (some (110, true)) else (if x4 = 9 then (some (116, true)) else (some (0, false))))
def value_escape.f (k : Nat) (a0 : Int) : Option (Int × Bool) := if a0 = 34 then (value_escape.j0 k a0 a0 (a0 == 34)) else (value_escape.j0 k a0 a0 (a0 == 92))
set_option maxRecDepth 100000 in
theorem value_escape.j0_zero : ∀ y0 y1 y2, value_escape.j0 0 y0 y1 y2 = none := fun _ _ _ => rfl
set_option maxRecDepth 100000 in
theorem value_escape.mono_l : ∀ k, (∀ y0 y1 y2, LeO (value_escape.j0 k y0 y1 y2) (value_escape.j0 (k + 1) y0 y1 y2))
  | 0 => fun _ _ _ r h => by (unfold value_escape.j0 at h; cases h)
  | k + 1 => by
    have ih0 := value_escape.mono_l k
    · intro y0 y1 y2
      unfold value_escape.j0
      repeat' first
      | (with_reducible exact ih0 _ _ _)
      | (with_reducible exact LeO.refl _)
      | (with_reducible exact LeO.none _)
      | (with_reducible refine LeO.ite ?_ ?_)
      | (with_reducible refine LeO.bind ?_ (fun _ => ?_))
      | exact ih0 _ _ _
      | exact LeO.none _
      | refine LeO.ite ?_ ?_
      | refine LeO.bind ?_ (fun _ => ?_)
set_option maxRecDepth 100000 in
theorem value_escape.mono : ∀ a0 k, LeO (value_escape.f k a0) (value_escape.f (k + 1) a0) := by
  intro a0 k
  have ih0 := value_escape.mono_l k
  unfold value_escape.f
  repeat' first
      | (with_reducible exact ih0 _ _ _)
      | (with_reducible exact LeO.refl _)
      | (with_reducible exact LeO.none _)
      | (with_reducible refine LeO.ite ?_ ?_)
      | (with_reducible refine LeO.bind ?_ (fun _ => ?_))
      | exact ih0 _ _ _
      | exact LeO.none _
      | refine LeO.ite ?_ ?_
      | refine LeO.bind ?_ (fun _ => ?_)
set_option maxHeartbeats 8000000 in
set_option maxRecDepth 100000 in
theorem value_escape.calls (k : Nat) (a0 : Int) (r1 : Int) (r2 : Bool) (w : World) (h : value_escape.f k a0 = some (r1, r2)) :
    Calls Tryz.prog 97 #[.int .u8 a0] w fun e w' => e = .returned (.tuple #[.int .u8 r1, .bool r2]) ∧ Drawn0 w w' := by
  have H : (if a0 = 34 then (value_escape.j0 k a0 a0 (a0 == 34)) else (value_escape.j0 k a0 a0 (a0 == 92))) = some (r1, r2) := h
  clear h
  have HC2 := Aside0.mk H
  clear H
  go_enter Tryz.func97, Tryz.ntmps97
  go_upto_if 5 with (fail)
  go_cut [5] (fun v5 wc => ∃ (kq : Nat) (x5_1 : Bool), v5 = .bool x5_1 ∧ Aside0 (value_escape.j0 kq a0 a0 x5_1 = some (r1, r2)) ∧ Aside0 (kq ≤ k) ∧ Drawn0 w wc)
  case first =>
    have H := HC2.out
    clear HC2
    by_cases c3 : a0 = 34
    · rw [if_pos c3] at H
      have c3b0 : (a0 == 34) = true := beq_iff_eq.mpr c3
      have c3b1 : (a0 != 34) = false := bne_eq_false_iff_eq.mpr c3
      clear c3
      (first | rw [c3b0] | (simp only [i64_w, i32_w, IntKind.wrap_u8, IntKind.wrap_u16, IntKind.wrap_u32]; rw [c3b0]) | skip)
      have H' := Aside0.mk H
      clear H
      go_wp2
      go_meet
      case rel => exact ⟨_, ((a0 == 34)), (by first | rfl | (simp; done) | (simp [*]; done) | (simp; unfold wrap64; omega) | (congr 1; (try rw [Bool.eq_iff_iff]); simp [List.isEmpty_iff]; done)), H', ⟨by first | omega | exact Nat.le_refl _⟩, by repeat (first | exact Drawn0.refl _ | apply Drawn0.step)⟩
    · rw [if_neg c3] at H
      have c3b0 : (a0 == 34) = false := beq_eq_false_iff_ne.mpr c3
      have c3b1 : (a0 != 34) = true := bne_iff_ne.mpr c3
      (first | rw [c3b0] | (simp only [i64_w, i32_w, IntKind.wrap_u8, IntKind.wrap_u16, IntKind.wrap_u32]; rw [c3b0]) | skip)
      have H' := Aside0.mk H
      clear H
      go_wp2
      go_meet
      case rel => exact ⟨_, ((a0 == 92)), (by first | rfl | (simp; done) | (simp [*]; done) | (simp; unfold wrap64; omega) | (congr 1; (try rw [Bool.eq_iff_iff]); simp [List.isEmpty_iff]; done)), H', ⟨by first | omega | exact Nat.le_refl _⟩, by repeat (first | exact Drawn0.refl _ | apply Drawn0.step)⟩
  case rest =>
    clear HC2
    try clear p2
    try clear c3
    try clear c3b0
    try clear c3b1
    obtain ⟨kq, x5_1, rfl, HA, HJ1, ⟨mc1, rfl⟩⟩ := hcut
    cases kq with
    | zero => (have HA2 := HA.out; clear HA; revert HA2; rw [value_escape.j0_zero]; intro h_; cases h_)
    | succ kj1 =>
      have H := HA.out
      clear HA
      simp only [value_escape.j0] at H
      by_cases c4 : x5_1 = true
      · subst c4
        have H1 : (some (a0, true)) = some (r1, r2) := by rw [if_pos rfl] at H; exact H
        clear H
        have H := H1
        clear H1
        simp only [Option.some.injEq, Prod.mk.injEq] at H
        obtain ⟨rfl, rfl⟩ := H
        go_wp2
        go_ret2
        exact ⟨by first | rfl | (simp; done) | (simp [*]; done) | (simp; unfold wrap64; omega) | (congr 1; (try rw [Bool.eq_iff_iff]); simp [List.isEmpty_iff]; done), by repeat (first | exact Drawn0.refl _ | apply Drawn0.step)⟩
      · replace c4 := Bool.eq_false_iff.mpr c4
        subst c4
        have H1 : (if a0 = 10 then (some (110, true)) else (if a0 = 9 then (some (116, true)) else (some (0, false)))) = some (r1, r2) := by rw [if_neg (show ¬ (false = true) by decide)] at H; exact H
        clear H
        have H := H1
        clear H1
        by_cases c5 : a0 = 10
        · rw [if_pos c5] at H
          have c5b0 : (a0 == 10) = true := beq_iff_eq.mpr c5
          have c5b1 : (a0 != 10) = false := bne_eq_false_iff_eq.mpr c5
          clear c5
          simp only [Option.some.injEq, Prod.mk.injEq] at H
          obtain ⟨rfl, rfl⟩ := H
          go_wp2
          go_ret2
          exact ⟨by first | rfl | (simp; done) | (simp [*]; done) | (simp; unfold wrap64; omega) | (congr 1; (try rw [Bool.eq_iff_iff]); simp [List.isEmpty_iff]; done), by repeat (first | exact Drawn0.refl _ | apply Drawn0.step)⟩
        · rw [if_neg c5] at H
          have c5b0 : (a0 == 10) = false := beq_eq_false_iff_ne.mpr c5
          have c5b1 : (a0 != 10) = true := bne_iff_ne.mpr c5
          by_cases c6 : a0 = 9
          · rw [if_pos c6] at H
            have c6b0 : (a0 == 9) = true := beq_iff_eq.mpr c6
            have c6b1 : (a0 != 9) = false := bne_eq_false_iff_eq.mpr c6
            clear c6
            simp only [Option.some.injEq, Prod.mk.injEq] at H
            obtain ⟨rfl, rfl⟩ := H
            go_wp2
            go_ret2
            exact ⟨by first | rfl | (simp; done) | (simp [*]; done) | (simp; unfold wrap64; omega) | (congr 1; (try rw [Bool.eq_iff_iff]); simp [List.isEmpty_iff]; done), by repeat (first | exact Drawn0.refl _ | apply Drawn0.step)⟩
          · rw [if_neg c6] at H
            have c6b0 : (a0 == 9) = false := beq_eq_false_iff_ne.mpr c6
            have c6b1 : (a0 != 9) = true := bne_iff_ne.mpr c6
            simp only [Option.some.injEq, Prod.mk.injEq] at H
            obtain ⟨rfl, rfl⟩ := H
            go_wp2
            go_ret2
            exact ⟨by first | rfl | (simp; done) | (simp [*]; done) | (simp; unfold wrap64; omega) | (congr 1; (try rw [Bool.eq_iff_iff]); simp [List.isEmpty_iff]; done), by repeat (first | exact Drawn0.refl _ | apply Drawn0.step)⟩

end Go.Proofs.YtpkbhfdfgapmlaaGreatDoor.Pr
end

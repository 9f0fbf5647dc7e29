import Derived.Test.YthmcapdakplhdaaDoorPuJoin
import Derived.Test.YthmcapdakplhdaaDoorPrx2
/- The law CsvJoins, walked by hand: it answers true. -/
namespace Go.Proofs.YthmcapdakplhdaaDoor.Pr
open Go.RowKit Go.Proofs.YthmcapdakplhdaaDoor.PuCsv Go.Proofs.YthmcapdakplhdaaDoorW.PrintWords Go.Proofs.YthmcapdakplhdaaDoorW.PrintLast Go.Proofs.YthmcapdakplhdaaDoorW.PrintMore
set_option maxRecDepth 100000
set_option linter.unusedVariables false
set_option linter.unusedSimpArgs false

theorem unt_calls (k : Nat) (X : List (List ByteArray)) (A5 A6 A1 : Option Addr) (c5 c6 c1 : Nat) (w : World) (h5 : (Kd.slice 9 Kd.string).C w A5 (X.length + 20) (X ++ ones 20)) (hc5 : X.length + 20 ≤ c5) (h6 : (Kd.slice 9 Kd.string).C w A6 X.length (wide X)) (hc6 : X.length ≤ c6) (h1 : (Kd.slice 9 Kd.string).C w A1 X.length X) (hc1 : X.length ≤ c1) (h : refrainlaw4_untouched.f k (X ++ ones 20) (wide X) X = some true) :
    Calls Tryd.prog 20 #[.slice A5 (X.length + 20) c5, .slice A6 X.length c6, .slice A1 X.length c1] w fun e w' => e = .returned (.bool true) ∧ Below w.heap.size w w' := by
  have e5 : (X ++ ones 20).length = X.length + 20 := by rw [List.length_append, ones_len]
  have := refrainlaw4_untouched.calls k A5 c5 (X ++ ones 20) A6 c6 (wide X) A1 c1 X true w (by rw [e5]; exact h5) (by rw [e5]; exact hc5) (by rw [wide_len]; exact h6) (by rw [wide_len]; exact hc6) h1 hc1 h
  rwa [e5, wide_len] at this
theorem pref_C {w : World} {A : Option Addr} {X : List (List ByteArray)} (h : (Kd.slice 9 Kd.string).C w A (X.length + 20) (X ++ ones 20)) : (Kd.slice 9 Kd.string).C w A X.length X := by
  have e5 : (X ++ ones 20).length = X.length + 20 := by rw [List.length_append, ones_len]
  rw [← e5] at h
  have := Kd.C_take h (m := X.length) (by omega)
  rwa [List.take_append_of_le_length (Nat.le_refl _), List.take_length] at this
set_option maxHeartbeats 16000000 in
theorem law4_CsvJoins (A0 : Option Addr) (c0 : Nat) (x : List (List (List ByteArray))) (w : World) (hr0 : Kd.C (Kd.slice 22 (Kd.slice 9 Kd.string)) w A0 x.length x) (hc0 : x.length ≤ c0) (hx : x.length ≤ 4611686018427387904) (hn : ∀ r ∈ x, r.length ≤ 5864062014634) (hl : ∀ r ∈ x, ∀ s ∈ r, s.length ≤ 8796093021952) (hL : Aside0 (LMax w)) :
    Calls Tryd.prog 4 #[.slice A0 x.length c0] w fun e w' => e = .returned (.bool true) ∧ Below w.heap.size w w' := by
  have HR0 := Aside0.mk hr0
  have HN := Aside0.mk hn
  have HNR := Aside0.mk hl
  clear hr0 hl hn
  go_enter Tryd.func4, Tryd.ntmps4
  go_wp2_with (go_at_call 13; refine (refrainlaw4_begun.calls true _ hL begun_true).mono ?_; rintro e w1 ⟨rfl, hb⟩; have HB := Aside0.mk hb; clear hb)
  go_loopg [4] x.length (fun g v4 wx => ∃ i : Nat, v4 = .int .i64 i ∧ i + g = x.length ∧ Aside0 (Below w.heap.size w wx))
  case atStart => exact ⟨0, rfl, by omega, HB⟩
  case round =>
    clear HB
    obtain ⟨i, rfl, hig, HB⟩ := hrel
    by_cases hlt : i < x.length
    · have hd : decide ((i : Int) < (x.length : Int)) = true := decide_eq_true (by omega)
      have p1 : 0 ≤ (i : Int) := by omega
      have q1 : (i : Int) < (x.length : Int) := by omega
      obtain ⟨ad1, A1, cap1, e1, hx1, hl1, hC1⟩ := at_L2 HR0.out (i : Int) p1 q1
      cases e1
      rw [Int.toNat_natCast] at hx1
      have HX0 := Aside0.mk hx1
      replace hx1 := pw_cell_below HB.out hx1
      have hmem : rd_L2 x (i : Int) ∈ x := by
        show x.getD _ _ ∈ x
        rw [Int.toNat_natCast, List.getD_eq_getElem?_getD, List.getElem?_eq_getElem hlt]
        exact List.getElem_mem _
      have hX := HN.out _ hmem
      have hXR := HNR.out _ hmem
      have HC1 := Aside0.mk hC1
      generalize rd_L2 x (i : Int) = X at *
      obtain ⟨R1, R2, hR⟩ : ∃ R1 R2, joinB X = (R1, R2) := ⟨_, _, rfl⟩
      have HRJ : Aside0 (csv_Join.f X = some (R1, R2)) := ⟨by
        unfold csv_Join.f
        rw [if_pos ⟨by omega, fun r hr => by have := hXR r hr; omega⟩, hR]⟩
      obtain ⟨k1, hk1⟩ := Ev.rounds (join_ev X (by omega) (fun r hr => by have := hXR r hr; omega))
      rw [hR] at hk1
      obtain ⟨k2, hk2⟩ := Ev.rounds (unt_ev X (by omega) (fun r hr => by have := hXR r hr; omega))
      have HK1 := Aside0.mk hk1
      have HK2 := Aside0.mk hk2
      have HXR := Aside0.mk hXR
      replace p1 := eq_true p1
      replace q1 := eq_true q1
      clear hC1 hmem hR hk1 hk2 hXR
      go_wp2_with (first | (go_at_call 17; refine (law4_roomy A1 cap1 X _ (Kd.C_below HC1.out HB.out) hl1 hX HXR.out).mono ?_; rintro e w2 ⟨v5, v6, rfl, h5, h6, hb⟩; have HB2 := Aside0.mk (HB.out.trans (hb.mono HB.out.size)); obtain ⟨A5, c5, e5⟩ := Kd.R_slice h5; rw [List.length_append, ones_len] at e5; obtain ⟨A6, c6, e6⟩ := Kd.R_slice h6; rw [wide_len] at e6; subst e5; subst e6; have hv5 := vw_C h5; rw [List.length_append, ones_len] at hv5; have hv6 := vw_C h6; rw [wide_len] at hv6; have HV5 := Aside0.mk hv5.2.2; have HV6 := Aside0.mk hv6.2.2; have hcap5 := hv5.2.1; have hcap6 := hv6.2.1; have hJ5 := pref_C hv5.2.2; clear hv5 hv6; have hx2 := pw_cell_below HB2.out HX0.out; clear h5 h6 hb) | (go_at_call 18; refine (csv_Join.calls A5 (X.length + 20) X R1 R2 _ hJ5 (by omega) ⟨hL.out.below HB2.out⟩ HRJ.out).mono ?_; rintro e w3 ⟨rfl, hb⟩; have HB3 := Aside0.mk (HB2.out.trans (hb.mono HB2.out.size)); have HQ5 := Aside0.mk (Kd.C_below HV5.out hb); have HQ6 := Aside0.mk (Kd.C_below HV6.out hb); have hx3 := pw_cell_below HB3.out HX0.out; clear hb) | (go_at_call 19; refine (refrainref4_Join.calls k1 A1 cap1 X R1 R2 _ (Kd.C_below HC1.out HB3.out) hl1 HK1.out).mono ?_; rintro e w4 ⟨rfl, hb⟩; have HB4 := Aside0.mk (HB3.out.trans (hb.mono HB3.out.size)); have HU5 := Aside0.mk (Kd.C_below HQ5.out hb); have HU6 := Aside0.mk (Kd.C_below HQ6.out hb); have hx4 := pw_cell_below HB4.out HX0.out; clear hb) | (go_at_call 20; refine (unt_calls k2 X A5 A6 A1 c5 c6 cap1 _ HU5.out hcap5 HU6.out hcap6 (Kd.C_below HC1.out HB4.out) hl1 HK2.out).mono ?_; rintro e w5 ⟨rfl, hb⟩; have HB5 := Aside0.mk (HB4.out.trans (hb.mono HB4.out.size)); clear hb))
      go_roundg (x.length - (i + 1))
      case measure => omega
      case rel => exact ⟨i + 1, rfl, by omega, HB5⟩
    · have hd : decide ((i : Int) < (x.length : Int)) = false := decide_eq_false (by omega)
      go_wp2
      go_ret
      exact ⟨rfl, HB.out⟩
open Classical in
/-- What it answers, where the rows are not too many. -/
noncomputable def refrainlaw4_CsvJoins.f (_k : Nat) (x : List (List (List ByteArray))) : Option Bool :=
  if x.length ≤ 4611686018427387904 ∧ (∀ r ∈ x, r.length ≤ 5864062014634) ∧ (∀ r ∈ x, ∀ s ∈ r, s.length ≤ 8796093021952) then some true else none
theorem refrainlaw4_CsvJoins.calls (k : Nat) (A0 : Option Addr) (c0 : Nat) (l0 : List (List (List ByteArray))) (r : Bool) (w : World) (hr0 : Kd.C (Kd.slice 22 (Kd.slice 9 Kd.string)) w A0 l0.length l0) (hc0 : l0.length ≤ c0) (HL_LMax : Aside0 (LMax w)) (h : refrainlaw4_CsvJoins.f k l0 = some r) :
    Calls Tryd.prog 4 #[.slice A0 l0.length c0] w fun e w' => e = .returned (.bool r) ∧ Below w.heap.size w w' := by
  unfold refrainlaw4_CsvJoins.f at h
  split at h
  · rename_i hb
    obtain rfl := Option.some.inj h
    exact law4_CsvJoins A0 c0 l0 w hr0 hc0 hb.1 hb.2.1 hb.2.2 HL_LMax
  · cases h
end Go.Proofs.YthmcapdakplhdaaDoor.Pr

import Derived.Test.YthhpeeckiggpaaaDoorPrx3
import Derived.Test.YthhpeeckiggpaaaDoorExtErr
import Derived.Test.YthhpeeckiggpaaaDoorShV
import Derived.Lib.Strings
import Derived.Lib.Walk
import Derived.Lib.ConvBytes
import Derived.Lib.AtoiErrMem
import Derived.Lib.Hide
import Derived.Laws.Strings3
import Derived.BigCall
import Derived.BigGuard
namespace Go.Proofs.YthhpeeckiggpaaaDoor.Pr
open Go.RowKit Go.Proofs.YthhpeeckiggpaaaDoorW.PrintWords Go.Proofs.YthhpeeckiggpaaaDoorW.PrintLast Go.Proofs.YthhpeeckiggpaaaDoorW.PrintMore
set_option linter.unusedVariables false
set_option linter.unusedSimpArgs false
/-- A hexadecimal digit's worth, either case. -/
def hexV (c : UInt8) : Option Nat :=
  if 48 ≤ c.toNat ∧ c.toNat ≤ 57 then some (c.toNat - 48) else if 97 ≤ c.toNat ∧ c.toNat ≤ 102 then some (c.toNat - 87) else if 65 ≤ c.toNat ∧ c.toNat ≤ 70 then some (c.toNat - 55) else none
def resH : Nat → List UInt8 → Option Nat
  | acc, [] => some acc
  | acc, c :: r => match hexV c with
    | none => none
    | some x => resH (16 * acc + x) r
/-- strconv.ParseUint(s, 16, 8) of two bytes. -/
def strconv_ParseUint.f (a0 : ByteArray) (a1 a2 : Int) : Option (Int × Option Int) :=
  if a1 = 16 ∧ a2 = 8 ∧ a0.size = 2 then
    match resH 0 a0.data.toList with
    | some u => some ((u : Int), none)
    | none => some (0, some 0)
  else none
def lowN (n : Nat) : Nat := ((strconv_lower.f (n : Int)).getD 0).toNat
theorem low_tab : ∀ n : Nat, n < 256 → lowN n < 256 ∧ strconv_lower.f (n : Int) = some (lowN n : Int) ∧
    ((48 ≤ n ∧ n ≤ 57 ∧ hexV (UInt8.ofNat n) = some (n - 48)) ∨ (¬ (48 ≤ n ∧ n ≤ 57) ∧ n ≠ 95 ∧ 97 ≤ lowN n ∧ lowN n ≤ 102 ∧ hexV (UInt8.ofNat n) = some (lowN n - 87)) ∨ (¬ (48 ≤ n ∧ n ≤ 57) ∧ n ≠ 95 ∧ 103 ≤ lowN n ∧ lowN n ≤ 122 ∧ hexV (UInt8.ofNat n) = none) ∨
     (¬ (48 ≤ n ∧ n ≤ 57) ∧ (lowN n < 97 ∨ 122 < lowN n) ∧ hexV (UInt8.ofNat n) = none)) := by decide +kernel
/-- What the inner ParseUint hands back. -/
def puRes : Option Nat → Value
  | some u => .tuple #[.int .u64 (u : Int), .nilIface]
  | none => .tuple #[.int .u64 0, .iface 125 (.int .i64 2)]
theorem hexV_lt {c : UInt8} {x : Nat} (h : hexV c = some x) : x < 16 := by
  unfold hexV at h
  split at h
  · injection h with h; omega
  · split at h
    · injection h with h; omega
    · split at h
      · injection h with h; omega
      · cases h
theorem lower_same (z r : Int) (h : strconv_lower.f z = some r) (w : World) : Calls Tryd.prog 103 #[.int .u8 z] w fun e w' => e = .returned (.int .u8 r) ∧ w' = w := by
  obtain rfl := Option.some.inj h
  go_enter Tryd.func103, Tryd.ntmps103
  go_wp2
  go_ret
  exact ⟨rfl, rfl⟩
set_option maxHeartbeats 4000000 in
set_option maxRecDepth 100000 in
theorem pu_inner (t : ByteArray) (ht : t.size = 2) (w : World) :
    Calls Tryd.prog 93 #[.string t, .int .i64 16, .int .i64 8] w fun e w' => e = .returned (puRes (resH 0 t.data.toList)) ∧ w' = Lib.bytesWorld w 5 t := by
  have hemp : t.toList.isEmpty = false := by
    rw [← decide_eq_emptyBytes]
    exact decide_eq_false (fun h => by rw [h] at ht; cases ht)
  have hcv := Lib.run_convert_string_bytes (P := Tryd.prog) w 9 70 5 t (u := .string) Tryd.underlying9 Tryd.underlying70 Tryd.underlying5
  have hB : ∀ j, j < t.size → (Lib.bytesWorld w 5 t).cell? ⟨w.heap.size, j, none⟩ = some (.int .u8 (t.data.toList.getD j 0).toNat) := fun j hj => Lib.bytesWorld_cell w 5 t j hj
  obtain ⟨W1, hW1⟩ : ∃ W1, W1 = Lib.bytesWorld w 5 t := ⟨_, rfl⟩
  rw [← hW1] at hcv hB ⊢
  clear hW1
  obtain ⟨bs, hL⟩ : ∃ bs, bs = t.data.toList := ⟨_, rfl⟩
  have hLn : bs.length = t.size := by rw [hL, Lib.size_eq]
  rw [← hL] at hB ⊢
  clear hL
  have hmv : IntKind.u64.wrap (IntKind.u64.wrap 256 - 1) = 255 := by
    rw [IntKind.wrap_u64, IntKind.wrap_u64]
    decide
  go_enter Tryd.func93, Tryd.ntmps93
  go_wp2
  go_loop [12, 13, 101] (fun vu vn vi => ∃ (k acc : Nat) (a : Int), vu = .bool false ∧ vn = .int .u64 a ∧ vi = .int .i64 k ∧ k ≤ t.size ∧ Hid (a = (acc : Int) ∧ (k = 0 → acc = 0) ∧ (k ≤ 1 → acc ≤ 15) ∧ acc ≤ 255 ∧ resH 0 bs = resH acc (bs.drop k)))
    (fun _ _ vi => t.size - (intOf vi).toNat)
  case atStart => exact ⟨0, 0, 0, rfl, rfl, rfl, by omega, rfl, by omega, by omega, by omega, rfl⟩
  case round =>
    obtain ⟨k, acc, a, rfl, rfl, rfl, hk, hh⟩ := hrel
    obtain ⟨ha, hacc0, hacc1, hacc, hdec⟩ := hh.out
    clear hh
    have a0 : 0 ≤ a := by omega
    have a1 : a ≤ 255 := by omega
    by_cases hkn : k < t.size
    · have hc := hB k hkn
      have hdrop : bs.drop k = bs[k]'(by omega) :: bs.drop (k + 1) := List.drop_eq_getElem_cons (by omega)
      have hget : bs.getD k 0 = bs[k]'(by omega) := by simp [List.getD, List.getElem?_eq_getElem (show k < bs.length by omega)]
      rw [hdrop] at hdec
      rw [hget] at hc
      generalize bs[k]'(by omega) = c at hc hdec
      have hc256 : c.toNat < 256 := c.toNat_lt
      clear hB hdrop hget
      have a15 : acc ≤ 15 := hacc1 (by omega)
      have a15' : a ≤ 15 := by omega
      have hofn : UInt8.ofNat c.toNat = c := by simp
      obtain ⟨hL1, hL2, hcs⟩ := low_tab c.toNat hc256
      rw [hofn] at hcs
      have hz0 : 0 ≤ (c.toNat : Int) := by omega
      have hz1 : (c.toNat : Int) ≤ 255 := by omega
      have HLOW := Aside0.mk hL2
      clear hL2 hofn
      generalize lowN c.toNat = L at *
      rcases hcs with ⟨hd0, hd1, hv⟩ | ⟨hnd, hu, hl0, hl1, hv⟩ | ⟨hnd, hu, hl0, hl1, hv⟩ | ⟨hnd, hl, hv⟩
      · -- a digit
        have hF : resH acc (c :: bs.drop (k + 1)) = resH (16 * acc + (c.toNat - 48)) (bs.drop (k + 1)) := by simp only [resH, hv]
        have HN : Hid (a * 16 + ((c.toNat : Int) - 48) = ((16 * acc + (c.toNat - 48) : Nat) : Int) ∧ (k + 1 = 0 → 16 * acc + (c.toNat - 48) = 0) ∧ (k + 1 ≤ 1 → 16 * acc + (c.toNat - 48) ≤ 15) ∧ 16 * acc + (c.toNat - 48) ≤ 255 ∧ resH 0 bs = resH (16 * acc + (c.toNat - 48)) (bs.drop (k + 1))) :=
          Lib.hid ⟨by omega, by omega, by intro h; have := hacc0 (by omega); omega, by omega, hdec.trans hF⟩
        clear hF hdec ha hacc hacc0 hacc1 hv hL1
        go_wp2
        exact ⟨⟨k + 1, 16 * acc + (c.toNat - 48), a * 16 + ((c.toNat : Int) - 48), rfl, rfl, congrArg (Value.int .i64) (by omega), by omega, HN⟩, by simp [intOf]; omega⟩
      · have hF : resH acc (c :: bs.drop (k + 1)) = resH (16 * acc + (L - 87)) (bs.drop (k + 1)) := by simp only [resH, hv]
        have HN : Hid (a * 16 + ((L : Int) - 97 + 10) = ((16 * acc + (L - 87) : Nat) : Int) ∧ (k + 1 = 0 → 16 * acc + (L - 87) = 0) ∧ (k + 1 ≤ 1 → 16 * acc + (L - 87) ≤ 15) ∧ 16 * acc + (L - 87) ≤ 255 ∧ resH 0 bs = resH (16 * acc + (L - 87)) (bs.drop (k + 1))) :=
          Lib.hid ⟨by omega, by omega, by intro h; have := hacc0 (by omega); omega, by omega, hdec.trans hF⟩
        have hu2 : ((c.toNat : Int) == 95) = false := beq_eq_false_iff_ne.mpr (by omega)
        have hnd2 : ((48 : Int) ≤ (c.toNat : Int)) = False ∨ ((48 : Int) ≤ (c.toNat : Int)) = True ∧ ((c.toNat : Int) ≤ 57) = False := by
          by_cases h : 48 ≤ c.toNat
          · exact .inr ⟨eq_true (by omega), eq_false (by omega)⟩
          · exact .inl (eq_false (by omega))
        clear hF hdec ha hacc hacc0 hacc1 hv hL1 hnd hu
        rcases hnd2 with h1 | ⟨h1, h2⟩
        all_goals
          go_wp2_with (go_at_call 103; (with_reducible refine (lower_same _ _ HLOW.out _).mono ?_); rintro e w' ⟨rfl, rfl⟩)
          exact ⟨⟨k + 1, 16 * acc + (L - 87), a * 16 + ((L : Int) - 97 + 10), rfl, rfl, congrArg (Value.int .i64) (by omega), by omega, HN⟩, by simp [intOf]; omega⟩
      · have hF : resH acc (c :: bs.drop (k + 1)) = none := by simp only [resH, hv]
        rw [hF] at hdec
        have HD := Aside0.mk hdec
        have hu2 : ((c.toNat : Int) == 95) = false := beq_eq_false_iff_ne.mpr (by omega)
        have hnd2 : ((48 : Int) ≤ (c.toNat : Int)) = False ∨ ((48 : Int) ≤ (c.toNat : Int)) = True ∧ ((c.toNat : Int) ≤ 57) = False := by
          by_cases h : 48 ≤ c.toNat
          · exact .inr ⟨eq_true (by omega), eq_false (by omega)⟩
          · exact .inl (eq_false (by omega))
        clear hF hdec ha hacc hacc0 hacc1 hv hL1 hnd hu
        rcases hnd2 with h1 | ⟨h1, h2⟩
        all_goals
          go_wp2_with (go_at_call 103; (with_reducible refine (lower_same _ _ HLOW.out _).mono ?_); rintro e w' ⟨rfl, rfl⟩)
          go_ret2
          exact ⟨by rw [HD.out]; rfl, rfl⟩
      · have hF : resH acc (c :: bs.drop (k + 1)) = none := by simp only [resH, hv]
        rw [hF] at hdec
        have HD := Aside0.mk hdec
        have hnd2 : ((48 : Int) ≤ (c.toNat : Int)) = False ∨ ((48 : Int) ≤ (c.toNat : Int)) = True ∧ ((c.toNat : Int) ≤ 57) = False := by
          by_cases h : 48 ≤ c.toNat
          · exact .inr ⟨eq_true (by omega), eq_false (by omega)⟩
          · exact .inl (eq_false (by omega))
        have hu2 : ((c.toNat : Int) == 95) = true ∨ ((c.toNat : Int) == 95) = false := by cases ((c.toNat : Int) == 95) <;> simp
        have hl2 : ((97 : Int) ≤ (L : Int)) = False ∨ ((97 : Int) ≤ (L : Int)) = True ∧ ((L : Int) ≤ 122) = False := by
          by_cases h : 97 ≤ L
          · exact .inr ⟨eq_true (by omega), eq_false (by omega)⟩
          · exact .inl (eq_false (by omega))
        clear hF hdec ha hacc hacc0 hacc1 hv hL1 hnd hl
        generalize (c.toNat : Int) = z at *
        rcases hnd2 with h1 | ⟨h1, h2⟩
        all_goals rcases hl2 with h3 | ⟨h3, h4⟩
        all_goals rcases hu2 with h5 | h5
        all_goals
          go_wp2_with (go_at_call 103; (with_reducible refine (lower_same _ _ HLOW.out _).mono ?_); rintro e w' ⟨rfl, rfl⟩)
          go_ret2
          exact ⟨by rw [HD.out]; rfl, rfl⟩
    · have hkk : k = t.size := by omega
      subst hkk
      have hF : resH acc (bs.drop t.size) = some acc := by rw [List.drop_eq_nil_of_le (by omega)]; rfl
      rw [hF] at hdec
      subst ha
      clear hacc hF a0 a1 hacc0 hacc1
      go_wp2
      go_ret2
      exact ⟨by first | rfl | (rw [hdec]; rfl), rfl⟩
set_option maxHeartbeats 1000000 in
theorem strconv_ParseUint.calls (a0 : ByteArray) (a1 a2 : Int) (r1 : Int) (r2 : Option Int) (w : World) (HL_LSyn : Aside0 (LSyn w)) (h : strconv_ParseUint.f a0 a1 a2 = some (r1, r2)) :
    Calls Tryd.prog 80 #[.string a0, .int .i64 a1, .int .i64 a2] w fun e w' => ∃ ev_, ErrX r2 ev_ ∧ e = .returned (.tuple #[.int .u64 r1, ev_]) ∧ Below w.heap.size w w' := by
  unfold strconv_ParseUint.f at h
  by_cases hc : a1 = 16 ∧ a2 = 8 ∧ a0.size = 2
  · rw [if_pos hc] at h
    obtain ⟨rfl, rfl, hs⟩ := hc
    have hin := pu_inner a0 hs w
    cases hr : resH 0 a0.data.toList with
    | some u =>
      rw [hr] at h hin
      obtain ⟨rfl, rfl⟩ := Prod.mk.inj (Option.some.inj h)
      have HI := Aside0.mk (show Calls Tryd.prog 93 #[.string a0, .int .i64 16, .int .i64 8] w fun e w' => e = .returned (.tuple #[.int .u64 (u : Int), .nilIface]) ∧ w' = Lib.bytesWorld w 5 a0 from hin)
      clear h hin hr hs
      go_enter Tryd.func80, Tryd.ntmps80
      go_wp2_with (go_at_call 93; (refine HI.out.mono ?_); rintro e w1 ⟨rfl, hw1⟩)
      go_ret2
      exact ⟨_, rfl, rfl, Lib.bytesWorld_below _ _ _⟩
    | none =>
      rw [hr] at h hin
      obtain ⟨rfl, rfl⟩ := Prod.mk.inj (Option.some.inj h)
      have HI := Aside0.mk (show Calls Tryd.prog 93 #[.string a0, .int .i64 16, .int .i64 8] w fun e w' => e = .returned (.tuple #[.int .u64 0, .iface 125 (.int .i64 2)]) ∧ w' = Lib.bytesWorld w 5 a0 from hin)
      have hb : Below w.heap.size w (Lib.bytesWorld w 5 a0) := Lib.bytesWorld_below _ _ _
      have hs2 : a0.size ≤ 281474976710656 := by omega
      obtain ⟨g, ev, hg, hv, hev⟩ := HL_LSyn.out.below hb
      have hgg : g = 6 := Option.some.inj (hg.symm.trans (by kernel_rfl))
      subst hgg
      have HV := Aside0.mk hv
      have HE := Aside0.mk hev
      have HB := Aside0.mk hb
      clear h hin hr hs hg hv hev HL_LSyn hb
      generalize Lib.bytesWorld w 5 a0 = W1 at *
      go_enter Tryd.func80, Tryd.ntmps80
      go_upto_region 3 with (go_at_call 93; (refine HI.out.mono ?_); rintro e w1 ⟨rfl, rfl⟩)
      go_wp2_with (go_at_call 82; (refine (Tryd.strconv_toError_syntax _ a0 16 8 ev _ hs2 HV.out HE.out).mono ?_); rintro e w2 ⟨N, rfl, h1, h2, h3⟩)
      go_ret2
      exact ⟨_, ⟨N, rfl⟩, rfl, HB.out.trans (h3.mono HB.out.size)⟩
  · rw [if_neg hc] at h
    cases h
end Go.Proofs.YthhpeeckiggpaaaDoor.Pr

import Derived.Test.YthmcapdakplhdaaDoorPrx0
import Derived.Test.YthmcapdakplhdaaDoorExtA
import Derived.Test.YthmcapdakplhdaaDoorShA
import Derived.Lib.ParseIntBCases
import Derived.Lib.AtoiErrMem
namespace Go.Proofs.YthmcapdakplhdaaDoor.Pr
open Go.RowKit Go.Proofs.YthmcapdakplhdaaDoorW.PrintWords Go.Proofs.YthmcapdakplhdaaDoorW.PrintLast Go.Proofs.YthmcapdakplhdaaDoorW.PrintMore
set_option linter.unusedVariables false
set_option linter.unusedSimpArgs false

/-- Is it a decimal digit? -/
def digB (c : UInt8) : Bool := decide (48 ≤ c.toNat) && decide (c.toNat ≤ 57)
/-- What token.isInt tells of a text's bytes. -/
def isIntB (l : List UInt8) : Bool := !l.isEmpty && !(decide (1 < l.length) && l.head? == some 48) && l.all digB && (match Lib.parseUintB 64 l with | .ok u => decide (u ≤ 9223372036854775807) | _ => false)
def token_isInt.f (a0 : ByteArray) : Option Bool := if a0.size ≤ 140737488355328 then some (isIntB a0.data.toList) else none

theorem data_len (s : ByteArray) : s.data.toList.length = s.size := by simp
theorem tl_data (s : ByteArray) : s.toList = s.data.toList := by
  have hl := data_len s
  have h : ∀ (m i : Nat) (r : List UInt8), s.size - i = m → ByteArray.toList.loop s i r = r.reverse ++ s.data.toList.drop i := by
    intro m
    induction m with
    | zero =>
      intro i r hm
      rw [ByteArray.toList.loop, if_neg (by omega), List.drop_eq_nil_of_le (by omega), List.append_nil]
    | succ m ih =>
      intro i r hm
      have hi : i < s.size := by omega
      rw [ByteArray.toList.loop, if_pos hi, ih (i + 1) _ (by omega)]
      have e : s.get! i = s.data.toList[i]'(by omega) := by
        unfold ByteArray.get!
        simp only [Array.getElem_toList]
        exact getElem!_pos s.data i hi
      rw [e, List.reverse_cons, List.append_assoc, List.singleton_append, ← List.drop_eq_getElem_cons]
  have := h s.size 0 [] (by omega)
  simpa [ByteArray.toList] using this

theorem all_upto_end {s : ByteArray} {pos : Nat} (h : ∀ i (hi : i < s.size), i < pos → digB s[i] = true) (hp : ¬ pos < s.size) : s.data.toList.all digB = true := by
  rw [List.all_eq_true]
  intro x hx
  obtain ⟨i, hi, rfl⟩ := List.getElem_of_mem hx
  have hi' : i < s.size := by simpa using hi
  exact h i hi' (by omega)
theorem not_all {s : ByteArray} {pos : Nat} (hp : pos < s.size) (h : digB s[pos] = false) : s.data.toList.all digB = false := by
  rw [List.all_eq_false]
  have hl := data_len s
  have e : s[pos] = s.data.toList[pos]'(by omega) := by simp only [Array.getElem_toList]; rfl
  exact ⟨s[pos], by rw [e]; exact List.getElem_mem _, by simp [h]⟩

theorem below_iter (w : World) (s : ByteArray) (p : Nat) : Below w.heap.size w (w.iter s p) := below_alloc (Below.refl _ _) _
theorem laid_iter {w : World} (h : LErr w) (s : ByteArray) (p : Nat) : LErr (w.iter s p) := h.below (below_iter w s p)
theorem below_bytes {w w1 : World} {t : TypeId} {s : ByteArray} (h : w1 = w ∨ w1 = Lib.bytesWorld w t s) : Below w.heap.size w w1 := by
  rcases h with rfl | rfl
  · exact Below.refl _ _
  · exact Lib.bytesWorld_below _ _ _

/-- strconv.ParseUint of a text that is digits alone: a number, or too great. -/
theorem pu_ends (l : List UInt8) (h : l.all digB = true) (hne : l ≠ []) : (∃ u, Lib.parseUintB 64 l = .ok u) ∨ Lib.parseUintB 64 l = .range := by
  have g : ∀ (l : List UInt8) (M acc : Nat), l.all digB = true → (∃ u, Lib.parseUintM M acc l = .ok u) ∨ Lib.parseUintM M acc l = .range := by
    intro l
    induction l with
    | nil => intro M acc _; exact .inl ⟨acc, rfl⟩
    | cons c r ih =>
      intro M acc h
      rw [List.all_cons, Bool.and_eq_true] at h
      have hc : 48 ≤ c.toNat ∧ c.toNat ≤ 57 := by simpa [digB] using h.1
      unfold Lib.parseUintM
      rw [if_pos hc]
      split
      · exact .inr rfl
      · split
        · exact .inr rfl
        · exact ih _ _ h.2
  unfold Lib.parseUintB
  rw [if_neg hne]
  exact g l _ _ h

set_option maxHeartbeats 1000000 in
theorem isInt_loop (s : ByteArray) (w : World) (hs : s.size ≤ 140737488355328) (hL : Aside0 (LErr w)) (hE1 : s.toList.isEmpty = false) (hE2 : (s.toList = []) = False) (hp0 : 0 < s.size)
    (hz : ((1 : Int) < (s.size : Int)) = False ∨ ((1 : Int) < (s.size : Int)) = True ∧ (((s[0]'hp0).toNat : Int) == 48) = false) :
    Calls Tryd.prog 49 #[.string s] w fun e w' => e = .returned (.bool (s.data.toList.all digB && (match Lib.parseUintB 64 s.data.toList with | .ok u => decide (u ≤ 9223372036854775807) | _ => false))) ∧ Below w.heap.size w w' := by
  obtain ⟨R, hR⟩ : ∃ R, R = (s.data.toList.all digB && (match Lib.parseUintB 64 s.data.toList with | .ok u => decide (u ≤ 9223372036854775807) | _ => false)) := ⟨_, rfl⟩
  rw [← hR]
  have HR := Aside0.mk hR
  clear hR
  rcases hz with hz | ⟨hz, hz2⟩
  all_goals
    go_enter Tryd.func49, Tryd.ntmps49
    go_wp2
    go_loopw [4] (fun v w' => ∃ (pos : Nat), w' = w.iter s pos ∧ Aside0 (∀ i (hi : i < s.size), i < pos → digB s[i] = true)) (fun _ w' => s.size - w'.iterPos w.heap.size)
    case atStart => exact ⟨0, rfl, ⟨fun i hi h => by omega⟩⟩
    case round =>
      obtain ⟨pos, rfl, HD⟩ := hrel
      by_cases hp : pos < s.size
      · have hnx : ∀ ty, (Instr.next (.pointer (some ⟨w.heap.size, 0, none⟩)) true ty).run Tryd.prog (w.iter s pos) = _ := fun ty => run_next_any w s pos ty hp
        by_cases hd : digB s[pos] = true
        · have hd2 : 48 ≤ s[pos].toNat ∧ s[pos].toNat ≤ 57 := by simpa [digB] using hd
          rw [decode_ascii s pos hp (by omega)] at hnx
          have k1 : ((s[pos].toNat : Int) < 48) = False := eq_false (by omega)
          have k2 : ((57 : Int) < (s[pos].toNat : Int)) = False := eq_false (by omega)
          have HX : Aside0 (digB s[pos] = true) := ⟨hd⟩
          clear hd hd2
          go_wp2
          go_roundw
          case rel =>
            refine ⟨pos + 1, rfl, ⟨fun i hi h => ?_⟩⟩
            by_cases e : i = pos
            · subst e; exact HX.out
            · exact HD.out i hi (by omega)
          case measure =>
            simp
            omega
        · have hd' : digB s[pos] = false := by simpa using hd
          have hr : R = false := by rw [HR.out, not_all hp hd']; rfl
          have hk : ((((Utf8.decode s pos).1 : Nat) : Int) < 48) = True ∨ ((((Utf8.decode s pos).1 : Nat) : Int) < 48) = False ∧ ((57 : Int) < (((Utf8.decode s pos).1 : Nat) : Int)) = True := by
            by_cases ha : s[pos].toNat < 128
            · rw [decode_ascii s pos hp ha]
              simp only [digB, Bool.and_eq_false_iff, decide_eq_false_iff_not] at hd'
              by_cases h1 : s[pos].toNat < 48
              · exact .inl (eq_true (by show ((s[pos].toNat : Nat) : Int) < 48; omega))
              · exact .inr ⟨eq_false (by show ¬ ((s[pos].toNat : Nat) : Int) < 48; omega), eq_true (by show (57 : Int) < ((s[pos].toNat : Nat) : Int); omega)⟩
            · have := (decode_high s pos hp (by omega)).1
              exact .inr ⟨eq_false (by omega), eq_true (by omega)⟩
          subst hr
          clear hd hd'
          rcases hk with hk | ⟨hk, hk2⟩
          all_goals
            go_wp2
            go_ret
            exact ⟨rfl, below_iter _ _ _⟩
      · have hnx : ∀ ty, (Instr.next (.pointer (some ⟨w.heap.size, 0, none⟩)) true ty).run Tryd.prog (w.iter s pos) = _ := fun ty => run_next_end w s pos ty hp
        have hall := all_upto_end HD.out hp
        have hne : s.data.toList ≠ [] := fun e => by have := data_len s; rw [e] at this; simp at this; omega
        obtain ⟨g, ev, hg, hv, hev⟩ := laid_iter hL.out s pos
        have hr := HR.out
        rw [hall, Bool.true_and] at hr
        rcases pu_ends _ hall hne with ⟨u, hu⟩ | hu
        · rw [hu] at hr
          have HU := Aside0.mk hu
          clear hall hne hg hv hev hu
          by_cases hb : u ≤ 9223372036854775807
          · have hr2 : R = true := by rw [hr]; simpa using hb
            subst hr2
            have hb2 : ((u : Int) ≤ 9223372036854775807) = True := eq_true (by omega)
            clear hr hb
            go_wp2_with (go_at_call 65; (with_reducible refine (Tryd.strconv_ParseUint_10_at64_ok s (by omega) u HU.out _).mono ?_); rintro e w1 ⟨rfl, hw1⟩)
            go_ret
            exact ⟨rfl, (below_iter _ _ _).trans ((below_bytes hw1).mono (by simp [World.iter]))⟩
          · have hr2 : R = false := by rw [hr]; simpa using hb
            subst hr2
            have hb2 : ((u : Int) ≤ 9223372036854775807) = False := eq_false (by omega)
            clear hr hb
            go_wp2_with (go_at_call 65; (with_reducible refine (Tryd.strconv_ParseUint_10_at64_ok s (by omega) u HU.out _).mono ?_); rintro e w1 ⟨rfl, hw1⟩)
            go_ret
            exact ⟨rfl, (below_iter _ _ _).trans ((below_bytes hw1).mono (by simp [World.iter]))⟩
        · rw [hu] at hr
          have hr2 : R = false := hr
          subst hr2
          have HU := Aside0.mk hu
          have HE := Aside0.mk hev
          have hgg : g = 2 := by rw [show Tryd.prog.globalNamed "strconv.ErrRange" = some 2 by kernel_rfl] at hg; exact (Option.some.inj hg).symm
          have HV := Aside0.mk hv
          rw [hgg] at HV
          clear hr hall hne hg hv hev hu hgg
          go_wp2_with (go_at_call 65; (with_reducible refine (Tryd.strconv_ParseUint_10_at64_range s (by omega) HU.out ev _ HV.out HE.out).mono ?_); rintro e w1 ⟨N, rfl, hN, hn, hw1⟩)
          go_ret
          exact ⟨rfl, (below_iter _ _ _).trans (hw1.mono (by simp [World.iter]))⟩

theorem token_isInt.calls (a0 : ByteArray) (r : Bool) (w : World) (HL_LErr : Aside0 (LErr w)) (h : token_isInt.f a0 = some r) :
    Calls Tryd.prog 49 #[.string a0] w fun e w' => e = .returned (.bool r) ∧ Below w.heap.size w w' := by
  unfold token_isInt.f at h
  by_cases hs : a0.size ≤ 140737488355328
  · rw [if_pos hs] at h
    obtain rfl := Option.some.inj h
    clear h
    have hl := data_len a0
    by_cases h0 : a0.size = 0
    · have hd : a0.data.toList = [] := List.eq_nil_of_length_eq_zero (by omega)
      have ht : a0.toList = [] := by rw [tl_data]; exact hd
      have hr : isIntB a0.data.toList = false := by rw [hd]; rfl
      rw [hr]
      clear hr hd hl
      go_enter Tryd.func49, Tryd.ntmps49
      go_wp2
      go_ret
      exact ⟨rfl, Below.refl _ _⟩
    · have hp0 : 0 < a0.size := by omega
      have hne : a0.data.toList ≠ [] := fun e => by rw [e] at hl; simp at hl; omega
      have hE1 : a0.toList.isEmpty = false := by rw [tl_data]; simpa using hne
      have hE2 : (a0.toList = []) = False := by rw [tl_data]; exact eq_false hne
      have hq : a0.data.toList.isEmpty = false := by simpa using hne
      have h00 : a0.data.toList.head? = some a0[0] := by
        rw [List.head?_eq_getElem?, List.getElem?_eq_getElem (by omega)]
        simp only [Array.getElem_toList]
        rfl
      have h48 : (a0.data.toList.head? == some 48) = (((a0[0]).toNat : Int) == 48) := by
        rw [h00, Bool.eq_iff_iff]
        simp only [beq_iff_eq, Option.some.injEq]
        constructor
        · intro e; rw [e]; rfl
        · intro e; exact UInt8.toNat_inj.mp (by show _ = 48; omega)
      by_cases h1 : 1 < a0.size
      · by_cases h2 : (((a0[0]).toNat : Int) == 48) = true
        · have hr : isIntB a0.data.toList = false := by unfold isIntB; rw [h48, h2, hq, hl]; simp [h1]
          rw [hr]
          have k1 : ((1 : Int) < (a0.size : Int)) = True := eq_true (by omega)
          clear hr hq h00 h48 hne hl h0
          go_enter Tryd.func49, Tryd.ntmps49
          go_wp2
          go_ret
          exact ⟨rfl, Below.refl _ _⟩
        · have h2' : (((a0[0]).toNat : Int) == 48) = false := by simpa using h2
          have hr : isIntB a0.data.toList = (a0.data.toList.all digB && (match Lib.parseUintB 64 a0.data.toList with | .ok u => decide (u ≤ 9223372036854775807) | _ => false)) := by unfold isIntB; rw [h48, h2', hq]; simp
          rw [hr]
          exact isInt_loop a0 w hs HL_LErr hE1 hE2 hp0 (.inr ⟨eq_true (by omega), h2'⟩)
      · have hr : isIntB a0.data.toList = (a0.data.toList.all digB && (match Lib.parseUintB 64 a0.data.toList with | .ok u => decide (u ≤ 9223372036854775807) | _ => false)) := by unfold isIntB; rw [hq, hl]; simp [h1]
        rw [hr]
        exact isInt_loop a0 w hs HL_LErr hE1 hE2 hp0 (.inl (eq_false (by omega)))
  · rw [if_neg hs] at h
    cases h
end Go.Proofs.YthmcapdakplhdaaDoor.Pr

import Derived.Test.YthhpeeckiggpaaaDoorPvOps
import Derived.Test.YthhpeeckiggpaaaDoorOpnValueRound
namespace Go.Proofs.YthhpeeckiggpaaaDoor.valueRound
open Go Go.RowKit Go.Proofs.YthhpeeckiggpaaaDoor.Pr Go.Proofs.YthhpeeckiggpaaaDoor.Opn Go.Proofs.YthhpeeckiggpaaaDoor.Pu Go.Proofs.YthhpeeckiggpaaaDoor.Pv Go.Proofs.YthhpeeckiggpaaaDoorW.PrintWords Go.Proofs.YthhpeeckiggpaaaDoorW.PrintLast Go.Proofs.YthhpeeckiggpaaaDoorW.PrintMore
set_option linter.unusedVariables false
set_option linter.unusedSimpArgs false

theorem okShow (kd n : Int) (s : ByteArray) (b : Bool) : (validV kd n s b != ((showV kd n s b).2 == 0)) = false := by
  unfold showV
  by_cases h : validV kd n s b = true
  · rw [if_neg (by simp [h]), h]
    repeat' split
    all_goals rfl
  · rw [if_pos (by simpa using h)]
    simp only [Bool.not_eq_true] at h
    rw [h]
    rfl
theorem rdS (l : List SV) (i : Nat) (h : i < l.length) : rd_T26 l (i : Int) = l[i] := by
  unfold rd_T26
  simp [h]
/-- A value's text is short. -/
theorem show_size (kd n : Int) (s : ByteArray) (b : Bool) (h0 : -9223372036854775808 ≤ n) (h1 : n ≤ 9223372036854775807) : (showV kd n s b).1.size ≤ 2000 := by
  unfold showV
  by_cases hv : validV kd n s b = false
  · rw [if_pos hv]; simp [ByteArray.size]
  rw [if_neg hv]
  by_cases k1 : kd = 1
  · rw [if_pos k1]
    have := Lib.itoa_length_le n h0 h1
    simp only [ByteArray.size, List.size_toArray]; omega
  rw [if_neg k1]
  by_cases k2 : kd = 2
  · rw [if_pos k2]
    have hs : s.size ≤ 256 := by
      simp only [Bool.not_eq_false] at hv
      unfold validV at hv
      rw [if_neg k1, if_pos k2] at hv
      simp at hv
      exact hv.2
    have := fm_len s.data.toList
    have := data_len s
    simp only [ByteArray.size, List.size_toArray, qvs, List.length_cons, List.length_append, List.length_nil]
    omega
  rw [if_neg k2]
  cases b <;> simp [ByteArray.size]
theorem rdB (l : List ByteArray) (i : Nat) (h : i < l.length) : rdOf ByteArray.empty l (i : Int) = l[i] := by
  unfold rdOf
  simp [h]
theorem loop1 (l1 : List ByteArray) (h1 : l1.length ≤ 281474976710656) (hs : ∀ s ∈ l1, s.size ≤ 140737488351232) : ∀ (m i : Nat), l1.length - i = m → i ≤ l1.length → Ev (fun k => refrainlaw1_ValueRound.l1 k l1 (i : Int)) true := by
  intro m
  induction m with
  | zero =>
    intro i hm hi
    refine Ev.step (fun k => refrainlaw1_ValueRound.l1.eq_2 _ _ k) ?_
    simp only [if_neg (show ¬ (i : Int) < (l1.length : Int) by omega)]
    exact Ev.now _
  | succ m ih =>
    intro i hm hi
    have hlt : i < l1.length := by omega
    refine Ev.step (fun k => refrainlaw1_ValueRound.l1.eq_2 _ _ k) ?_
    simp only [if_pos (show (i : Int) < (l1.length : Int) by omega), if_pos (show (0 : Int) ≤ (i : Int) by omega), rdB l1 i hlt]
    have hz := hs _ (List.getElem_mem hlt)
    generalize l1[i] = s at hz
    have hr := read_ev s.data.toList (by rw [data_len]; exact hz)
    rw [B_of] at hr
    refine Ev.bind (f := fun k t => _) hr ?_
    have nx : Ev (fun k => refrainlaw1_ValueRound.l1 k l1 (wrap64 ((i : Int) + 1))) true := by
      rw [w64 (by omega) (by omega)]
      exact ih (i + 1) (by omega) (by omega)
    by_cases h0 : (readP s.data.toList).2.2.2.2 = 0
    · obtain ⟨e1, _, b1, b2⟩ := read_ok h0
      rw [B_of] at e1
      simp only [if_pos h0, show_f _ _ _ _ ⟨b1, b2⟩, e1, Option.bind_some, if_pos]
      exact nx
    · simp only [if_neg h0]
      exact nx
theorem loop0 (l0 : List SV) (l1 : List ByteArray) (h0 : l0.length ≤ 281474976710656) (hv : ∀ x ∈ l0, -9223372036854775808 ≤ x.f1 ∧ x.f1 ≤ 9223372036854775807)
    (h1 : l1.length ≤ 281474976710656) (hs : ∀ s ∈ l1, s.size ≤ 140737488351232) : ∀ (m i : Nat), l0.length - i = m → i ≤ l0.length → Ev (fun k => refrainlaw1_ValueRound.l0 k l0 l1 (i : Int)) true := by
  intro m
  induction m with
  | zero =>
    intro i hm hi
    refine Ev.step (fun k => refrainlaw1_ValueRound.l0.eq_2 _ _ _ k) ?_
    simp only [if_neg (show ¬ (i : Int) < (l0.length : Int) by omega)]
    exact loop1 l1 h1 hs _ 0 rfl (by omega)
  | succ m ih =>
    intro i hm hi
    have hlt : i < l0.length := by omega
    refine Ev.step (fun k => refrainlaw1_ValueRound.l0.eq_2 _ _ _ k) ?_
    simp only [if_pos (show (i : Int) < (l0.length : Int) by omega), if_pos (show (0 : Int) ≤ (i : Int) by omega), rdS l0 i hlt]
    have hz := hv _ (List.getElem_mem hlt)
    generalize l0[i] = v at hz
    have nx : Ev (fun k => refrainlaw1_ValueRound.l0 k l0 l1 (wrap64 ((i : Int) + 1))) true := by
      rw [w64 (by omega) (by omega)]
      exact ih (i + 1) (by omega) (by omega)
    simp only [show_f _ _ _ _ hz, valid_f, Option.bind_some, okShow, Bool.false_eq_true, if_false]
    by_cases hk : validV v.f0 v.f1 v.f2 v.f3 = true
    · simp only [if_pos hk]
      obtain ⟨hr, _⟩ := read_show v.f0 v.f1 v.f2 v.f3 hk hz.1 hz.2
      have hb := read_ev (showV v.f0 v.f1 v.f2 v.f3).1.data.toList (by rw [data_len]; have := show_size v.f0 v.f1 v.f2 v.f3 hz.1 hz.2; omega)
      rw [B_of, hr] at hb
      refine Ev.bind (f := fun k t => _) hb ?_
      simp only [if_pos, beq_self_eq_true, Bool.not_true, Bool.or_false, Bool.false_eq_true, if_false]
      exact nx
    · simp only [if_neg hk]
      exact nx
theorem pureG : PureG := by
  intro l0 l1 g0 g1
  refine Ev.rounds (?_ : Ev (fun k => refrainlaw1_ValueRound.f k l0 l1) true)
  unfold refrainlaw1_ValueRound.f
  refine Ev.bind (f := fun k t => _) begun_ev ?_
  simp only [if_pos]
  have n0 := g0.2.1
  have n1 := g1.2.1
  refine loop0 l0 l1 (by omega) (fun x hx => ?_) (by omega) g1.2.2 _ 0 rfl (by omega)
  have h : IntKind.i64.min ≤ x.f1 ∧ x.f1 ≤ IntKind.i64.max := by simpa [Lit.wf] using (g0.2.2 x hx).2.1
  exact h
end Go.Proofs.YthhpeeckiggpaaaDoor.valueRound

import Derived.Test.YthhpeeckiggpaaaGreatDoorPvRefRead
import Derived.Test.YthhpeeckiggpaaaGreatDoorExtRB
import Derived.Test.YthhpeeckiggpaaaGreatDoorOpnValueScript
namespace Go.Proofs.YthhpeeckiggpaaaGreatDoor.valueScript
open Go Go.RowKit Go.Proofs.YthhpeeckiggpaaaGreatDoor.Pr Go.Proofs.YthhpeeckiggpaaaGreatDoor.Opn Go.Proofs.YthhpeeckiggpaaaGreatDoor.Pu Go.Proofs.YthhpeeckiggpaaaGreatDoor.Pv Go.Proofs.YthhpeeckiggpaaaGreatDoorW.PrintWords Go.Proofs.YthhpeeckiggpaaaGreatDoorW.PrintLast Go.Proofs.YthhpeeckiggpaaaGreatDoorW.PrintMore
set_option linter.unusedVariables false
set_option linter.unusedSimpArgs false

abbrev SO := S29
theorem rdO (l : List SO) (i : Nat) (h : i < l.length) : rd_T29 l (i : Int) = l[i] := by
  unfold rd_T29
  simp [h]
theorem show_size (kd n : Int) (s : ByteArray) (b : Bool) (h0 : -9223372036854775808 ≤ n) (h1 : n ≤ 9223372036854775807) : (showV kd n s b).1.size ≤ 140737488351232 := by
  by_cases hv : okV ⟨kd, n, s, b⟩ = true
  · have key : ∀ z : ByteArray, showV kd n s b = (z, 0) → z.size ≤ 140737488351232 := by
      intro z hz
      have := text_size ⟨kd, n, s, b⟩ hv ⟨h0, h1⟩ z.data.toList (by rw [B_of]; exact hz)
      rw [data_len] at this
      omega
    rcases show_shape ⟨kd, n, s, b⟩ hv with ⟨_, _, _, q⟩ | ⟨_, _, _, _, q⟩ | ⟨_, _, _, q⟩
    · have q' : showV kd n s b = _ := q
      rw [q']
      exact key _ q'
    · have q' : showV kd n s b = _ := q
      rw [q']
      exact key _ q'
    · have q' : showV kd n s b = _ := q
      rw [q']
      exact key _ q'
  · have e : showV kd n s b = (⟨#[]⟩, 12) := by
      unfold showV
      rw [if_pos (by simpa [okV] using hv)]
    rw [e]
    decide
theorem plays_ev (o : SO) (last : ByteArray) (hl : last.size ≤ 140737488351232) (g : G29 o) :
    ∃ t : ByteArray, t.size ≤ 140737488351232 ∧ Ev (fun k => refrainlaw1_plays.f k o.f0 o.f1.f0 o.f1.f1 o.f1.f2 o.f1.f3 o.f2.f0 o.f2.f1 o.f2.f2 o.f2.f3 o.f3 o.f4 last) (t, true) := by
  obtain ⟨g0, g1, g2, g3, g4⟩ := g
  have b1 : -9223372036854775808 ≤ o.f1.f1 ∧ o.f1.f1 ≤ 9223372036854775807 := by
    have h : IntKind.i64.min ≤ o.f1.f1 ∧ o.f1.f1 ≤ IntKind.i64.max := by simpa [Lit.wf] using g1.2.1
    exact h
  have s1 : o.f1.f2.size ≤ 140737488351232 := g1.2.2.1
  have s2 : o.f2.f2.size ≤ 140737488351232 := g2.2.2.1
  unfold refrainlaw1_plays.f
  by_cases k1 : o.f0 = 1
  · refine ⟨_, show_size o.f1.f0 o.f1.f1 o.f1.f2 o.f1.f3 b1.1 b1.2, ?_⟩
    simp only [if_pos k1, valid_f, rvalid_f, show_f _ _ _ _ b1, Option.bind_some]
    refine Ev.bind (f := fun k t => _) (refshow_ev o.f1.f0 o.f1.f1 o.f1.f2 o.f1.f3 b1.1 b1.2) ?_
    simp only [beq_self_eq_true, if_pos]
    exact Ev.now _
  simp only [if_neg k1]
  by_cases k2 : o.f0 = 2
  · refine ⟨last, hl, ?_⟩
    simp only [if_pos k2]
    have h1 := read_ev o.f3.data.toList (by rw [data_len]; exact g3)
    have h2 := refread_ev o.f3.data.toList (by rw [data_len]; exact g3)
    rw [B_of] at h1 h2
    refine Ev.bind (f := fun k t => _) h1 ?_
    refine Ev.bind (f := fun k t => _) h2 ?_
    simp only [beq_self_eq_true, Bool.and_self, if_pos]
    exact Ev.now _
  simp only [if_neg k2]
  by_cases k3 : o.f0 = 3
  · refine ⟨last, hl, ?_⟩
    simp only [if_pos k3]
    refine Ev.bind (f := fun k t => _) (compare_ev o.f1 o.f2) ?_
    refine Ev.bind (f := fun k t => _) (rcompare_ev o.f1 o.f2 s1 s2) ?_
    simp only [beq_self_eq_true]
    exact Ev.now _
  simp only [if_neg k3]
  by_cases k4 : o.f0 = 4
  · refine ⟨last, hl, ?_⟩
    simp only [if_pos k4]
    refine Ev.bind (f := fun k t => _) (binary_ev o.f4 o.f1 o.f2) ?_
    refine Ev.bind (g := fun _ => refrainref1_Binary.f o.f4 o.f1.f0 o.f1.f1 o.f1.f2 o.f1.f3 o.f2.f0 o.f2.f1 o.f2.f2 o.f2.f3) (f := fun k t => _) (Ev.now (binS o.f4 o.f1 o.f2)) ?_
    simp only [beq_self_eq_true, Bool.and_self, if_pos]
    exact Ev.now _
  simp only [if_neg k4]
  by_cases k5 : o.f0 = 5
  · refine ⟨last, hl, ?_⟩
    simp only [if_pos k5]
    refine Ev.bind (f := fun k t => _) (unary_ev o.f4 o.f1) ?_
    refine Ev.bind (f := fun k t => _) (runary_ev o.f4 o.f1) ?_
    simp only [beq_self_eq_true, Bool.and_self, if_pos]
    exact Ev.now _
  simp only [if_neg k5]
  by_cases k6 : o.f0 = 6
  · refine ⟨last, hl, ?_⟩
    simp only [if_pos k6]
    have h1 := read_ev last.data.toList (by rw [data_len]; exact hl)
    have h2 := refread_ev last.data.toList (by rw [data_len]; exact hl)
    rw [B_of] at h1 h2
    refine Ev.bind (f := fun k t => _) h1 ?_
    refine Ev.bind (f := fun k t => _) h2 ?_
    simp only [beq_self_eq_true, Bool.and_self, if_pos]
    exact Ev.now _
  · refine ⟨last, hl, ?_⟩
    simp only [if_neg k6]
    exact Ev.now _
theorem loop0 (l0 : List SO) (h0 : l0.length ≤ 281474976710656) (hg : ∀ o ∈ l0, G29 o) : ∀ (m i : Nat) (last : ByteArray), last.size ≤ 140737488351232 → l0.length - i = m → i ≤ l0.length → Ev (fun k => refrainlaw1_ValueScript.l0 k l0 last (i : Int)) true := by
  intro m
  induction m with
  | zero =>
    intro i last hl hm hi
    refine Ev.step (fun k => refrainlaw1_ValueScript.l0.eq_2 _ _ _ k) ?_
    simp only [if_neg (show ¬ (i : Int) < (l0.length : Int) by omega)]
    exact Ev.now _
  | succ m ih =>
    intro i last hl hm hi
    have hlt : i < l0.length := by omega
    refine Ev.step (fun k => refrainlaw1_ValueScript.l0.eq_2 _ _ _ k) ?_
    simp only [if_pos (show (i : Int) < (l0.length : Int) by omega), if_pos (show (0 : Int) ≤ (i : Int) by omega), rdO l0 i hlt]
    obtain ⟨t, ht, hev⟩ := plays_ev l0[i] last hl (hg _ (List.getElem_mem hlt))
    have nx : Ev (fun k => refrainlaw1_ValueScript.l0 k l0 t (wrap64 ((i : Int) + 1))) true := by
      rw [w64 (by omega) (by omega)]
      exact ih (i + 1) t ht (by omega) (by omega)
    refine Ev.bind (f := fun k t => _) hev ?_
    simp only [if_pos]
    exact nx
theorem pureG : PureG := by
  intro l0 g0
  refine Ev.rounds (?_ : Ev (fun k => refrainlaw1_ValueScript.f k l0) true)
  unfold refrainlaw1_ValueScript.f
  refine Ev.bind (f := fun k t => _) begun_ev ?_
  simp only [if_pos]
  have n0 := g0.2.1
  exact loop0 l0 (by omega) g0.2.2 _ 0 _ (by decide) rfl (by omega)
end Go.Proofs.YthhpeeckiggpaaaGreatDoor.valueScript

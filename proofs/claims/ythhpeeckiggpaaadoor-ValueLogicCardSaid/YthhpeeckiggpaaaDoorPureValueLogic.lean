import Derived.Test.YthhpeeckiggpaaaDoorPvUna
import Derived.Test.YthhpeeckiggpaaaDoorOpnValueLogic
namespace Go.Proofs.YthhpeeckiggpaaaDoor.valueLogic
open Go Go.RowKit Go.Proofs.YthhpeeckiggpaaaDoor.Pr Go.Proofs.YthhpeeckiggpaaaDoor.Opn Go.Proofs.YthhpeeckiggpaaaDoor.Pu Go.Proofs.YthhpeeckiggpaaaDoor.Pv Go.Proofs.YthhpeeckiggpaaaDoorW.PrintWords Go.Proofs.YthhpeeckiggpaaaDoorW.PrintLast Go.Proofs.YthhpeeckiggpaaaDoorW.PrintMore
set_option linter.unusedVariables false
set_option linter.unusedSimpArgs false

def tv (b : Bool) : SV := ⟨3, 0, ⟨#[]⟩, b⟩
theorem tv_ok (b : Bool) : okV (tv b) = true := by simp [okV, tv, validV, nil_tl]
theorem un_tv (b : Bool) : unS 2 (tv b) = (3, 0, ⟨#[]⟩, !b, 0) := by
  have e : refS 2 1 2 [tv b] = 0 := by
    unfold refS
    rw [if_neg (by omega), if_pos (by simp [tv_ok]), if_pos (by simp [fitS, rd, G0c0, tv])]
  unfold unS
  rw [e, if_pos rfl, if_neg (by omega)]
  rfl
theorem bin_tv (op : Int) (h : op = 12 ∨ op = 13) (a b : Bool) : binS op (tv a) (tv b) = (3, 0, ⟨#[]⟩, relS op (tv a) (tv b), 0) := by
  have e : refS op 3 13 [tv a, tv b] = 0 := by
    unfold refS
    rw [if_neg (by omega), if_pos (by simp [tv_ok])]
    rcases h with rfl | rfl
    · rw [if_pos (by simp [fitS, rd, G0c0, tv])]
    · rw [if_pos (by simp [fitS, rd, G0c0, tv])]
  unfold binS
  rw [e, if_pos rfl, if_neg (by omega), if_neg (by omega), if_neg (by omega)]
theorem yes_ev (op : Int) (h : op = 12 ∨ op = 13) (a b r : Bool) (hr : relS op (tv a) (tv b) = r) : Ev (fun k => refrainlaw1_yes.f k op 3 0 (⟨#[]⟩ : ByteArray) a 3 0 (⟨#[]⟩ : ByteArray) b r) true := by
  unfold refrainlaw1_yes.f
  refine Ev.bind (f := fun k t => _) (binary_ev op (tv a) (tv b)) ?_
  rw [bin_tv op h a b, hr]
  refine Ev.congr (f := fun _ => some true) (fun k => ?_) (Ev.now _)
  simp [nil_tl]
theorem rel12 (a b : Bool) : relS 12 (tv a) (tv b) = (a && b) := by unfold relS; rfl
theorem rel13 (a b : Bool) : relS 13 (tv a) (tv b) = (a || b) := by unfold relS; rfl
theorem refS_same (o1 o2 : Int) (x y : SV) (h1 : ¬ (o1 < 3 ∨ 13 < o1)) (h2 : ¬ (o2 < 3 ∨ 13 < o2)) (hw : rd G0c0 o1 = rd G0c0 o2) : refS o1 3 13 [x, y] = refS o2 3 13 [x, y] := by
  unfold refS
  rw [if_neg h1, if_neg h2, hw]
theorem bin_rel (o : Int) (x y : SV) (h : 6 ≤ o) : binS o x y = if refS o 3 13 [x, y] = 0 then (3, 0, ⟨#[]⟩, relS o x y, 0) else (0, 0, ⟨#[]⟩, false, refS o 3 13 [x, y]) := by
  unfold binS
  rw [if_neg (show ¬ o = 3 by omega), if_neg (show ¬ o = 4 by omega), if_neg (show ¬ o = 5 by omega)]
theorem l0_step (i : Int) (o1 o2 : Int) (x y : SV) (hi0 : 0 ≤ i) (hi3 : i < 3) (e1 : rd ([6, 8, 10] : List Int) i = o1) (e2 : rd ([7, 11, 9] : List Int) i = o2) (h1 : 6 ≤ o1 ∧ o1 ≤ 13) (h2 : 6 ≤ o2 ∧ o2 ≤ 13)
    (hw : rd G0c0 o1 = rd G0c0 o2) (hr : (relS o1 x y == relS o2 x y) = false)
    (nx : Ev (fun k => refrainlaw1_ValueLogic.l0 k (wrap64 (i + 1)) x.f0 x.f1 x.f2 x.f3 y.f0 y.f1 y.f2 y.f3 6 7 8 11 10 9) true) :
    Ev (fun k => refrainlaw1_ValueLogic.l0 k i x.f0 x.f1 x.f2 x.f3 y.f0 y.f1 y.f2 y.f3 6 7 8 11 10 9) true := by
  have hs := refS_same o1 o2 x y (by omega) (by omega) hw
  refine Ev.step (f := fun k => (value_Binary.f k o1 x.f0 x.f1 x.f2 x.f3 y.f0 y.f1 y.f2 y.f3).bind fun b1 => ((value_Binary.f k o2 x.f0 x.f1 x.f2 x.f3 y.f0 y.f1 y.f2 y.f3).bind fun b2 => (if b1.2.2.2.2 = b2.2.2.2.2 then (if b1.2.2.2.2 = 0 then (if (b1.2.2.2.1 == b2.2.2.2.1) = true then (some false) else (refrainlaw1_ValueLogic.l0 k (wrap64 (i + 1)) x.f0 x.f1 x.f2 x.f3 y.f0 y.f1 y.f2 y.f3 6 7 8 11 10 9)) else (refrainlaw1_ValueLogic.l0 k (wrap64 (i + 1)) x.f0 x.f1 x.f2 x.f3 y.f0 y.f1 y.f2 y.f3 6 7 8 11 10 9)) else (some false)))) (fun k => ?_) ?_
  · rw [refrainlaw1_ValueLogic.l0, if_pos hi3, if_pos hi0, e1, e2]
  refine Ev.bind (f := fun k b => _) (binary_ev o1 x y) ?_
  refine Ev.bind (f := fun k b => _) (binary_ev o2 x y) ?_
  rw [bin_rel o1 x y h1.1, bin_rel o2 x y h2.1, hs]
  by_cases hz : refS o2 3 13 [x, y] = 0
  · simp only [if_pos hz, if_pos, hr, Bool.false_eq_true, if_false]
    exact nx
  · simp only [if_neg hz, if_pos]
    exact nx
theorem loop_ev (x y : SV) : Ev (fun k => refrainlaw1_ValueLogic.l0 k 0 x.f0 x.f1 x.f2 x.f3 y.f0 y.f1 y.f2 y.f3 6 7 8 11 10 9) true := by
  have w1 : wrap64 (0 + 1) = 1 := w64 (by omega) (by omega)
  have w2 : wrap64 (1 + 1) = 2 := w64 (by omega) (by omega)
  have w3 : wrap64 (2 + 1) = 3 := w64 (by omega) (by omega)
  refine l0_step 0 6 7 x y (by omega) (by omega) rfl rfl (by omega) (by omega) rfl ?_ ?_
  · unfold relS
    simp only [show ¬ ((6 : Int) = 11) by decide, show ¬ ((7 : Int) = 11) by decide, show ¬ ((7 : Int) = 6) by decide, show ¬ ((7 : Int) = 9) by decide, show ¬ ((7 : Int) = 8) by decide, if_false, if_true]
    generalize cmpV x y = c
    by_cases h : c = 0
    · simp [h]
    · have h1 : (c == 0) = false := beq_eq_false_iff_ne.mpr h
      have h2 : (c != 0) = true := bne_iff_ne.mpr h
      rw [h1, h2]
      rfl
  rw [w1]
  refine l0_step 1 8 11 x y (by omega) (by omega) rfl rfl (by omega) (by omega) rfl ?_ ?_
  · unfold relS
    simp only [show ¬ ((8 : Int) = 11) by decide, show ¬ ((8 : Int) = 6) by decide, show ¬ ((8 : Int) = 9) by decide, if_false, if_true]
    by_cases h : cmpV x y < 0
    · first | (simp [h]; done) | (simp [h]; omega)
    · first | (simp [h]; done) | (simp [h]; omega)
  rw [w2]
  refine l0_step 2 10 9 x y (by omega) (by omega) rfl rfl (by omega) (by omega) rfl ?_ ?_
  · unfold relS
    simp only [show ¬ ((10 : Int) = 11) by decide, show ¬ ((10 : Int) = 6) by decide, show ¬ ((10 : Int) = 9) by decide, show ¬ ((10 : Int) = 8) by decide, show ¬ ((10 : Int) = 7) by decide, show ¬ ((9 : Int) = 11) by decide, show ¬ ((9 : Int) = 6) by decide, if_false, if_true]
    by_cases h : 0 < cmpV x y
    · simp [h]
    · first | (simp [h]; done) | (simp [h]; omega)
  rw [w3]
  refine Ev.step (f := fun _ => some true) (fun k => ?_) (Ev.now _)
  rw [refrainlaw1_ValueLogic.l0, if_neg (by omega)]
theorem j1_ev (x y : SV) : Ev (fun k => refrainlaw1_ValueLogic.j1 k false x.f0 x.f1 x.f2 x.f3 y.f0 y.f1 y.f2 y.f3) true := by
  refine Ev.step (fun k => ?_) (loop_ev x y)
  rw [refrainlaw1_ValueLogic.j1, if_neg (by simp)]
theorem pureG : PureG := by
  intro p q x y _ _
  refine Ev.rounds (?_ : Ev (fun k => refrainlaw1_ValueLogic.f k p q x.f0 x.f1 x.f2 x.f3 y.f0 y.f1 y.f2 y.f3) true)
  unfold refrainlaw1_ValueLogic.f
  refine Ev.bind (f := fun k t => _) begun_ev ?_
  simp only [if_pos]
  refine Ev.bind (f := fun k t => _) (unary_ev 2 (tv p)) ?_
  rw [un_tv p]
  refine Ev.bind (f := fun k t => _) (unary_ev 2 (tv q)) ?_
  rw [un_tv q]
  refine Ev.bind (f := fun k t => _) (unary_ev 2 (tv (!p))) ?_
  rw [un_tv (!p)]
  refine Ev.congr (f := fun k => refrainlaw1_ValueLogic.j0 k p q false x.f0 x.f1 x.f2 x.f3 y.f0 y.f1 y.f2 y.f3 3 0 (⟨#[]⟩ : ByteArray) p 3 0 (⟨#[]⟩ : ByteArray) q 3 0 (⟨#[]⟩ : ByteArray) (!p) 3 0 (⟨#[]⟩ : ByteArray) (!q)) (fun k => ?_) ?_
  · simp only [if_pos]
    rw [if_neg (by simp [nil_tl])]
    congr 1
    cases p <;> simp [nil_tl]
  have y1 := yes_ev 12 (Or.inl rfl) p q (p && q) (rel12 p q)
  have y2 := yes_ev 13 (Or.inr rfl) p q (p || q) (rel13 p q)
  have y3 := yes_ev 12 (Or.inl rfl) (!p) (!q) (!p && !q) (rel12 _ _)
  have y4 := yes_ev 13 (Or.inr rfl) (!p) (!q) (!p || !q) (rel13 _ _)
  have hj := j1_ev x y
  cases p with
  | true =>
    refine Ev.step (f := fun k => (refrainlaw1_yes.f k 12 3 0 (⟨#[]⟩ : ByteArray) true 3 0 (⟨#[]⟩ : ByteArray) q q).bind fun t536 => (if t536 = true then ((refrainlaw1_yes.f k 13 3 0 (⟨#[]⟩ : ByteArray) true 3 0 (⟨#[]⟩ : ByteArray) q true).bind fun t537 => (if t537 = true then ((refrainlaw1_yes.f k 12 3 0 (⟨#[]⟩ : ByteArray) (!true) 3 0 (⟨#[]⟩ : ByteArray) (!q) false).bind fun t538 => (if t538 = true then ((refrainlaw1_yes.f k 13 3 0 (⟨#[]⟩ : ByteArray) (!true) 3 0 (⟨#[]⟩ : ByteArray) (!q) (!q)).bind fun t539 => (refrainlaw1_ValueLogic.j1 k (!t539) x.f0 x.f1 x.f2 x.f3 y.f0 y.f1 y.f2 y.f3)) else (refrainlaw1_ValueLogic.j1 k true x.f0 x.f1 x.f2 x.f3 y.f0 y.f1 y.f2 y.f3))) else (refrainlaw1_ValueLogic.j1 k true x.f0 x.f1 x.f2 x.f3 y.f0 y.f1 y.f2 y.f3))) else (refrainlaw1_ValueLogic.j1 k true x.f0 x.f1 x.f2 x.f3 y.f0 y.f1 y.f2 y.f3))) (fun k => ?_) ?_
    · rw [refrainlaw1_ValueLogic.j0, if_neg (by simp), if_pos rfl]
    refine Ev.bind (f := fun k t => _) (by simpa using y1) ?_
    simp only [if_pos]
    refine Ev.bind (f := fun k t => _) (by simpa using y2) ?_
    simp only [if_pos]
    refine Ev.bind (f := fun k t => _) (by simpa using y3) ?_
    simp only [if_pos]
    have y5 : Ev (fun k => refrainlaw1_yes.f k 13 3 0 (⟨#[]⟩ : ByteArray) (!true) 3 0 (⟨#[]⟩ : ByteArray) (!q) (!q)) true := by simpa using y4
    refine Ev.bind (f := fun k t => _) y5 ?_
    exact hj
  | false =>
    refine Ev.step (f := fun k => (refrainlaw1_yes.f k 12 3 0 (⟨#[]⟩ : ByteArray) false 3 0 (⟨#[]⟩ : ByteArray) q false).bind fun t540 => (if t540 = true then ((refrainlaw1_yes.f k 13 3 0 (⟨#[]⟩ : ByteArray) false 3 0 (⟨#[]⟩ : ByteArray) q q).bind fun t541 => (if t541 = true then ((refrainlaw1_yes.f k 12 3 0 (⟨#[]⟩ : ByteArray) (!false) 3 0 (⟨#[]⟩ : ByteArray) (!q) (!q)).bind fun t542 => (if t542 = true then ((refrainlaw1_yes.f k 13 3 0 (⟨#[]⟩ : ByteArray) (!false) 3 0 (⟨#[]⟩ : ByteArray) (!q) true).bind fun t543 => (refrainlaw1_ValueLogic.j1 k (!t543) x.f0 x.f1 x.f2 x.f3 y.f0 y.f1 y.f2 y.f3)) else (refrainlaw1_ValueLogic.j1 k true x.f0 x.f1 x.f2 x.f3 y.f0 y.f1 y.f2 y.f3))) else (refrainlaw1_ValueLogic.j1 k true x.f0 x.f1 x.f2 x.f3 y.f0 y.f1 y.f2 y.f3))) else (refrainlaw1_ValueLogic.j1 k true x.f0 x.f1 x.f2 x.f3 y.f0 y.f1 y.f2 y.f3))) (fun k => ?_) ?_
    · rw [refrainlaw1_ValueLogic.j0, if_neg (by simp), if_neg (by simp)]
    refine Ev.bind (f := fun k t => _) (by simpa using y1) ?_
    simp only [if_pos]
    refine Ev.bind (f := fun k t => _) (by simpa using y2) ?_
    simp only [if_pos]
    refine Ev.bind (f := fun k t => _) (by simpa using y3) ?_
    simp only [if_pos]
    have y5 : Ev (fun k => refrainlaw1_yes.f k 13 3 0 (⟨#[]⟩ : ByteArray) (!false) 3 0 (⟨#[]⟩ : ByteArray) (!q) true) true := by simpa using y4
    refine Ev.bind (f := fun k t => _) y5 ?_
    exact hj
end Go.Proofs.YthhpeeckiggpaaaDoor.valueLogic

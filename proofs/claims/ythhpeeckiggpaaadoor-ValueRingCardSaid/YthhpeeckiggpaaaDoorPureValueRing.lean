import Derived.Test.YthhpeeckiggpaaaDoorPvUna
import Derived.Test.YthhpeeckiggpaaaDoorOpnValueRing
namespace Go.Proofs.YthhpeeckiggpaaaDoor.valueRing
open Go Go.RowKit Go.Proofs.YthhpeeckiggpaaaDoor.Pr Go.Proofs.YthhpeeckiggpaaaDoor.Opn Go.Proofs.YthhpeeckiggpaaaDoor.Pu Go.Proofs.YthhpeeckiggpaaaDoor.Pv Go.Proofs.YthhpeeckiggpaaaDoorW.PrintWords Go.Proofs.YthhpeeckiggpaaaDoorW.PrintLast Go.Proofs.YthhpeeckiggpaaaDoorW.PrintMore
set_option linter.unusedVariables false
set_option linter.unusedSimpArgs false

theorem wrapAt (n : Int) : ∃ t, wrap64 n = n + t * 18446744073709551616 := ⟨-((n + 9223372036854775808) / 18446744073709551616), by unfold wrap64; omega⟩
theorem wrapOff (n t : Int) : wrap64 (n + t * 18446744073709551616) = wrap64 n := by unfold wrap64; omega
theorem wAddL (a b : Int) : wrap64 (wrap64 a + b) = wrap64 (a + b) := by
  obtain ⟨t, h⟩ := wrapAt a
  rw [h, show a + t * 18446744073709551616 + b = a + b + t * 18446744073709551616 by omega, wrapOff]
theorem wAddR (a b : Int) : wrap64 (a + wrap64 b) = wrap64 (a + b) := by rw [Int.add_comm, wAddL, Int.add_comm]
theorem wSubL (a b : Int) : wrap64 (wrap64 a - b) = wrap64 (a - b) := by
  obtain ⟨t, h⟩ := wrapAt a
  rw [h, show a + t * 18446744073709551616 - b = a - b + t * 18446744073709551616 by omega, wrapOff]
theorem wMulL (a b : Int) : wrap64 (wrap64 a * b) = wrap64 (a * b) := by
  obtain ⟨t, h⟩ := wrapAt a
  rw [h, Int.add_mul, show t * 18446744073709551616 * b = (t * b) * 18446744073709551616 by rw [Int.mul_assoc, Int.mul_comm 18446744073709551616 b, ← Int.mul_assoc], wrapOff]
theorem wMulR (a b : Int) : wrap64 (a * wrap64 b) = wrap64 (a * b) := by rw [Int.mul_comm, wMulL, Int.mul_comm]
theorem vN (a : Int) : validV 1 a ⟨#[]⟩ false = true := by unfold validV; simp
/-- Arithmetic of two numbers. -/
def opI (op a b : Int) : Int := wrap64 (if op = 3 then a + b else if op = 4 then a - b else a * b)
theorem ref0 (op a b : Int) (h : op = 3 ∨ op = 4 ∨ op = 5) : refS op 3 13 [⟨1, a, ⟨#[]⟩, false⟩, ⟨1, b, ⟨#[]⟩, false⟩] = 0 := by
  unfold refS
  rw [if_neg (by omega), if_pos (by simp [okV, vN])]
  have : fitS (rd G0c0 op) 1 = true := by rcases h with rfl | rfl | rfl <;> decide
  rw [if_pos (by simp [this])]
theorem of_ev (op a b : Int) (h : op = 3 ∨ op = 4 ∨ op = 5) : Ev (fun k => refrainlaw1_of.f k op a b) (opI op a b, true) := by
  unfold refrainlaw1_of.f
  have hb := binary_ev op ⟨1, a, ⟨#[]⟩, false⟩ ⟨1, b, ⟨#[]⟩, false⟩
  have e : binS op ⟨1, a, ⟨#[]⟩, false⟩ ⟨1, b, ⟨#[]⟩, false⟩ = (1, opI op a b, ⟨#[]⟩, false, 0) := by
    unfold binS opI
    rw [if_pos (ref0 op a b h)]
    rcases h with rfl | rfl | rfl
    · rfl
    · rfl
    · rfl
  rw [e] at hb
  exact Ev.bind (f := fun _ t => _) hb (Ev.now _)
theorem neg_ev (a : Int) : Ev (fun k => value_Unary.f k 1 1 a (⟨#[]⟩ : ByteArray) false) (1, wrap64 (-a), ⟨#[]⟩, false, 0) := by
  have h := unary_ev 1 ⟨1, a, ⟨#[]⟩, false⟩
  have e : unS 1 ⟨1, a, ⟨#[]⟩, false⟩ = (1, wrap64 (-a), ⟨#[]⟩, false, 0) := by
    have hr : refS 1 1 2 [⟨1, a, ⟨#[]⟩, false⟩] = 0 := by
      unfold refS
      have : fitS (rd G0c0 1) 1 = true := by decide
      rw [if_neg (by omega), if_pos (by simp [okV, vN]), if_pos (by simp [this])]
    unfold unS
    rw [if_pos hr, if_pos rfl]
  rw [e] at h
  exact h
theorem pureG : PureG := by
  intro a b c ha hb hc
  have la : -9223372036854775808 ≤ a ∧ a ≤ 9223372036854775807 := by
    have h : IntKind.i64.min ≤ a ∧ a ≤ IntKind.i64.max := by simpa [Lit.wf] using ha
    exact h
  refine Ev.rounds (?_ : Ev (fun k => refrainlaw1_ValueRing.f k a b c) true)
  unfold refrainlaw1_ValueRing.f
  have p3 : (3 : Int) = 3 ∨ (3 : Int) = 4 ∨ (3 : Int) = 5 := .inl rfl
  have p4 : (4 : Int) = 3 ∨ (4 : Int) = 4 ∨ (4 : Int) = 5 := .inr (.inl rfl)
  have p5 : (5 : Int) = 3 ∨ (5 : Int) = 4 ∨ (5 : Int) = 5 := .inr (.inr rfl)
  refine Ev.bind (f := fun k t => _) begun_ev ?_
  simp only [if_pos]
  refine Ev.bind (f := fun k t => _) (of_ev 3 a b p3) ?_
  refine Ev.bind (f := fun k t => _) (of_ev 3 b a p3) ?_
  refine Ev.bind (f := fun k t => _) (of_ev 3 b c p3) ?_
  refine Ev.bind (f := fun k t => _) (of_ev 3 (opI 3 a b) c p3) ?_
  refine Ev.bind (f := fun k t => _) (of_ev 3 a (opI 3 b c) p3) ?_
  refine Ev.bind (f := fun k t => _) (of_ev 4 (opI 3 a b) b p4) ?_
  have c1 : opI 3 a b = opI 3 b a := by simp only [opI, if_pos]; rw [Int.add_comm]
  have c2 : opI 3 (opI 3 a b) c = opI 3 a (opI 3 b c) := by simp only [opI, if_pos]; rw [wAddL, wAddR, Int.add_assoc]
  have c3 : opI 4 (opI 3 a b) b = a := by
    simp only [opI, if_pos, if_neg (show ¬ (4 : Int) = 3 by omega)]
    rw [wSubL, show a + b - b = a by omega, w64 (by omega) (by omega)]
  simp only [if_pos, if_pos c1, if_pos c2, c3, bne_self_eq_false]
  refine Ev.step (fun k => refrainlaw1_ValueRing.j0.eq_2 _ _ _ _ _ k) ?_
  simp only [if_neg (show ¬ false = true by simp)]
  refine Ev.bind (f := fun k t => _) (of_ev 5 a b p5) ?_
  refine Ev.bind (f := fun k t => _) (of_ev 5 b a p5) ?_
  refine Ev.bind (f := fun k t => _) (of_ev 5 a c p5) ?_
  refine Ev.bind (f := fun k t => _) (of_ev 5 b c p5) ?_
  refine Ev.bind (f := fun k t => _) (of_ev 5 (opI 5 a b) c p5) ?_
  refine Ev.bind (f := fun k t => _) (of_ev 5 a (opI 5 b c) p5) ?_
  have n53 : ¬ (5 : Int) = 3 := by omega
  have n54 : ¬ (5 : Int) = 4 := by omega
  have n43 : ¬ (4 : Int) = 3 := by omega
  have d1 : opI 5 a b = opI 5 b a := by simp only [opI, if_neg n53, if_neg n54]; rw [Int.mul_comm]
  have d2 : opI 5 (opI 5 a b) c = opI 5 a (opI 5 b c) := by simp only [opI, if_neg n53, if_neg n54]; rw [wMulL, wMulR, Int.mul_assoc]
  simp only [if_pos, if_pos d1, d2, bne_self_eq_false]
  refine Ev.step (fun k => refrainlaw1_ValueRing.j1.eq_2 _ _ _ _ _ k) ?_
  simp only [if_neg (show ¬ false = true by simp)]
  refine Ev.bind (f := fun k t => _) (of_ev 5 a (opI 3 b c) p5) ?_
  refine Ev.bind (f := fun k t => _) (of_ev 3 (opI 5 a b) (opI 5 a c) p3) ?_
  refine Ev.bind (f := fun k t => _) (of_ev 5 a 1 p5) ?_
  refine Ev.bind (f := fun k t => _) (of_ev 4 0 a p4) ?_
  refine Ev.bind (f := fun k t => _) (neg_ev a) ?_
  have e1 : opI 5 a (opI 3 b c) = opI 3 (opI 5 a b) (opI 5 a c) := by simp only [opI, if_neg n53, if_neg n54, if_pos]; rw [wMulR, wAddL, wAddR, Int.mul_add]
  have e2 : opI 5 a 1 = a := by simp only [opI, if_neg n53, if_neg n54]; rw [Int.mul_one, w64 (by omega) (by omega)]
  have e3 : opI 4 0 a = wrap64 (-a) := by simp only [opI, if_neg n43, if_pos]; rw [Int.zero_sub]
  simp only [if_pos, if_pos e1, if_pos e2, e3]
  refine Ev.congr (f := fun _ => some true) (fun k => ?_) (Ev.now _)
  simp [nil_tl]
end Go.Proofs.YthhpeeckiggpaaaDoor.valueRing

import Derived.Test.YthhpeeckiggpaaaDoorExtRB
import Derived.Test.YthhpeeckiggpaaaDoorOpnValueOps
namespace Go.Proofs.YthhpeeckiggpaaaDoor.valueOps
open Go Go.RowKit Go.Proofs.YthhpeeckiggpaaaDoor.Pr Go.Proofs.YthhpeeckiggpaaaDoor.Opn Go.Proofs.YthhpeeckiggpaaaDoor.Pu Go.Proofs.YthhpeeckiggpaaaDoor.Pv Go.Proofs.YthhpeeckiggpaaaDoorW.PrintWords Go.Proofs.YthhpeeckiggpaaaDoorW.PrintLast Go.Proofs.YthhpeeckiggpaaaDoorW.PrintMore
set_option linter.unusedVariables false
set_option linter.unusedSimpArgs false

theorem rdS (l : List SV) (i : Nat) (h : i < l.length) : rd_T26 l (i : Int) = l[i] := by
  unfold rd_T26
  simp [h]
theorem loop2 (ops : List Int) (vs : List SV) (ho : ops.length ≤ 281474976710656) (i j : Nat) (hi : i < vs.length) (hj : j < vs.length)
    (nx : Ev (fun k => refrainlaw1_ValueOps.l1 k ops vs (i : Int) (wrap64 ((j : Int) + 1))) true) :
    ∀ (m q : Nat), ops.length - q = m → q ≤ ops.length → Ev (fun k => refrainlaw1_ValueOps.l2 k ops vs (i : Int) (j : Int) (q : Int)) true := by
  intro m
  induction m with
  | zero =>
    intro q hm hq
    refine Ev.step (fun k => refrainlaw1_ValueOps.l2.eq_2 _ _ _ _ _ k) ?_
    simp only [if_neg (show ¬ (q : Int) < (ops.length : Int) by omega)]
    exact nx
  | succ m ih =>
    intro q hm hq
    have hlt : q < ops.length := by omega
    refine Ev.step (fun k => refrainlaw1_ValueOps.l2.eq_2 _ _ _ _ _ k) ?_
    simp only [if_pos (show (q : Int) < (ops.length : Int) by omega), if_pos (show (0 : Int) ≤ (q : Int) by omega), if_pos (show (0 : Int) ≤ (i : Int) by omega), if_pos (show (0 : Int) ≤ (j : Int) by omega),
      if_pos (show (i : Int) < (vs.length : Int) by omega), if_pos (show (j : Int) < (vs.length : Int) by omega), rdS vs i hi, rdS vs j hj]
    have n2 : Ev (fun k => refrainlaw1_ValueOps.l2 k ops vs (i : Int) (j : Int) (wrap64 ((q : Int) + 1))) true := by
      rw [w64 (by omega) (by omega)]
      exact ih (q + 1) (by omega) (by omega)
    generalize vs[i] = x
    generalize vs[j] = y
    generalize rd ops (q : Int) = op
    refine Ev.bind (f := fun k t => _) (binary_ev op x y) ?_
    refine Ev.bind (g := fun _ => refrainref1_Binary.f op x.f0 x.f1 x.f2 x.f3 y.f0 y.f1 y.f2 y.f3) (f := fun k t => _) (Ev.now (binS op x y)) ?_
    refine Ev.bind (f := fun k t => _) (unary_ev op x) ?_
    refine Ev.bind (f := fun k t => _) (runary_ev op x) ?_
    simp only [beq_self_eq_true, Bool.not_true, Bool.or_self, Bool.false_eq_true, if_false, if_pos]
    exact n2
theorem loop1 (ops : List Int) (vs : List SV) (ho : ops.length ≤ 281474976710656) (hv : vs.length ≤ 281474976710656) (hs : ∀ x ∈ vs, x.f2.size ≤ 140737488351232) (i : Nat) (hi : i < vs.length)
    (nx : Ev (fun k => refrainlaw1_ValueOps.l0 k ops vs (wrap64 ((i : Int) + 1))) true) :
    ∀ (m j : Nat), vs.length - j = m → j ≤ vs.length → Ev (fun k => refrainlaw1_ValueOps.l1 k ops vs (i : Int) (j : Int)) true := by
  intro m
  induction m with
  | zero =>
    intro j hm hj
    refine Ev.step (fun k => refrainlaw1_ValueOps.l1.eq_2 _ _ _ _ k) ?_
    simp only [if_neg (show ¬ (j : Int) < (vs.length : Int) by omega)]
    exact nx
  | succ m ih =>
    intro j hm hj
    have hlt : j < vs.length := by omega
    refine Ev.step (fun k => refrainlaw1_ValueOps.l1.eq_2 _ _ _ _ k) ?_
    have n1 : Ev (fun k => refrainlaw1_ValueOps.l1 k ops vs (i : Int) (wrap64 ((j : Int) + 1))) true := by
      rw [w64 (by omega) (by omega)]
      exact ih (j + 1) (by omega) (by omega)
    have n2 := loop2 ops vs ho i j hi hlt n1 _ 0 rfl (by omega)
    simp only [if_pos (show (j : Int) < (vs.length : Int) by omega), if_pos (show (0 : Int) ≤ (i : Int) by omega), if_pos (show (0 : Int) ≤ (j : Int) by omega),
      if_pos (show (i : Int) < (vs.length : Int) by omega), rdS vs i hi, rdS vs j hlt]
    have h1 := hs _ (List.getElem_mem hi)
    have h2 := hs _ (List.getElem_mem hlt)
    generalize vs[i] = x at h1
    generalize vs[j] = y at h2
    refine Ev.bind (f := fun k t => _) (compare_ev x y) ?_
    refine Ev.bind (f := fun k t => _) (rcompare_ev x y h1 h2) ?_
    simp only [if_pos]
    exact n2
theorem loop0 (ops : List Int) (vs : List SV) (ho : ops.length ≤ 281474976710656) (hv : vs.length ≤ 281474976710656) (hs : ∀ x ∈ vs, x.f2.size ≤ 140737488351232) :
    ∀ (m i : Nat), vs.length - i = m → i ≤ vs.length → Ev (fun k => refrainlaw1_ValueOps.l0 k ops vs (i : Int)) true := by
  intro m
  induction m with
  | zero =>
    intro i hm hi
    refine Ev.step (fun k => refrainlaw1_ValueOps.l0.eq_2 _ _ _ k) ?_
    simp only [if_neg (show ¬ (i : Int) < (vs.length : Int) by omega)]
    exact Ev.now _
  | succ m ih =>
    intro i hm hi
    have hlt : i < vs.length := by omega
    refine Ev.step (fun k => refrainlaw1_ValueOps.l0.eq_2 _ _ _ k) ?_
    simp only [if_pos (show (i : Int) < (vs.length : Int) by omega)]
    refine loop1 ops vs ho hv hs i hlt ?_ _ 0 rfl (by omega)
    rw [w64 (by omega) (by omega)]
    exact ih (i + 1) (by omega) (by omega)
theorem pureG : PureG := by
  intro ops vs g0 g1
  refine Ev.rounds (?_ : Ev (fun k => refrainlaw1_ValueOps.f k ops vs) true)
  unfold refrainlaw1_ValueOps.f
  refine Ev.bind (f := fun k t => _) begun_ev ?_
  simp only [if_pos]
  have n0 := g0.2.1
  have n1 := g1.2.1
  exact loop0 ops vs (by omega) (by omega) (fun x hx => (g1.2.2 x hx).2.2.1) _ 0 rfl (by omega)
end Go.Proofs.YthhpeeckiggpaaaDoor.valueOps

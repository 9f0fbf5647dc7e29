import Derived.Test.YthhpeeckiggpaaaDoorPvShow
import Derived.Test.YthhpeeckiggpaaaDoorOpnValueShows
namespace Go.Proofs.YthhpeeckiggpaaaDoor.valueShows
open Go Go.RowKit Go.Proofs.YthhpeeckiggpaaaDoor.Pr Go.Proofs.YthhpeeckiggpaaaDoor.Opn Go.Proofs.YthhpeeckiggpaaaDoor.Pu Go.Proofs.YthhpeeckiggpaaaDoor.Pv Go.Proofs.YthhpeeckiggpaaaDoorW.PrintWords Go.Proofs.YthhpeeckiggpaaaDoorW.PrintLast Go.Proofs.YthhpeeckiggpaaaDoorW.PrintMore
set_option linter.unusedVariables false
set_option linter.unusedSimpArgs false

theorem rdS (l : List SV) (i : Nat) (h : i < l.length) : rd_T26 l (i : Int) = l[i] := by
  unfold rd_T26
  simp [h]
theorem loop0 (l0 : List SV) (h0 : l0.length ≤ 281474976710656) (hv : ∀ x ∈ l0, -9223372036854775808 ≤ x.f1 ∧ x.f1 ≤ 9223372036854775807) :
    ∀ (m i : Nat), l0.length - i = m → i ≤ l0.length → Ev (fun k => refrainlaw1_ValueShows.l0 k l0 (i : Int)) true := by
  intro m
  induction m with
  | zero =>
    intro i hm hi
    refine Ev.step (fun k => refrainlaw1_ValueShows.l0.eq_2 _ _ k) ?_
    simp only [if_neg (show ¬ (i : Int) < (l0.length : Int) by omega)]
    exact Ev.now _
  | succ m ih =>
    intro i hm hi
    have hlt : i < l0.length := by omega
    refine Ev.step (fun k => refrainlaw1_ValueShows.l0.eq_2 _ _ k) ?_
    simp only [if_pos (show (i : Int) < (l0.length : Int) by omega), if_pos (show (0 : Int) ≤ (i : Int) by omega), rdS l0 i hlt]
    have hz := hv _ (List.getElem_mem hlt)
    generalize l0[i] = v at hz
    have nx : Ev (fun k => refrainlaw1_ValueShows.l0 k l0 (wrap64 ((i : Int) + 1))) true := by
      rw [w64 (by omega) (by omega)]
      exact ih (i + 1) (by omega) (by omega)
    simp only [show_f _ _ _ _ hz, valid_f, refvalid_f, Option.bind_some]
    refine Ev.bind (f := fun k t => _) (refshow_ev v.f0 v.f1 v.f2 v.f3 hz.1 hz.2) ?_
    simp only [bne_self_eq_false, Bool.false_eq_true, if_false, if_pos]
    exact nx
theorem pureG : PureG := by
  intro l0 g0
  refine Ev.rounds (?_ : Ev (fun k => refrainlaw1_ValueShows.f k l0) true)
  unfold refrainlaw1_ValueShows.f
  refine Ev.bind (f := fun k t => _) begun_ev ?_
  simp only [if_pos]
  have n0 := g0.2.1
  refine loop0 l0 (by omega) (fun x hx => ?_) _ 0 rfl (by omega)
  have h : IntKind.i64.min ≤ x.f1 ∧ x.f1 ≤ IntKind.i64.max := by simpa [Lit.wf] using (g0.2.2 x hx).2.1
  exact h
end Go.Proofs.YthhpeeckiggpaaaDoor.valueShows

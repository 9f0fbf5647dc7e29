import Derived.Test.YthhpeeckiggpaaaDoorPvOps
import Derived.Test.YthhpeeckiggpaaaDoorOpnValueOrder
namespace Go.Proofs.YthhpeeckiggpaaaDoor.valueOrder
open Go Go.RowKit Go.Proofs.YthhpeeckiggpaaaDoor.Pr Go.Proofs.YthhpeeckiggpaaaDoor.Opn Go.Proofs.YthhpeeckiggpaaaDoor.Pu Go.Proofs.YthhpeeckiggpaaaDoor.Pv Go.Proofs.YthhpeeckiggpaaaDoorW.PrintWords Go.Proofs.YthhpeeckiggpaaaDoorW.PrintLast Go.Proofs.YthhpeeckiggpaaaDoorW.PrintMore
set_option linter.unusedVariables false
set_option linter.unusedSimpArgs false

/-- A three-way comparison that is a total order. -/
structure Tot {α : Type} (c : α → α → Int) : Prop where
  lo : ∀ x y, -1 ≤ c x y
  anti : ∀ x y, c x y = -c y x
  eq : ∀ x y, c x y = 0 ↔ x = y
  tr : ∀ x y z, c x y ≤ 0 → c y z ≤ 0 → c x z ≤ 0
theorem tot_int : Tot cmpI where
  lo x y := by unfold cmpI; repeat' split
               all_goals omega
  anti x y := by unfold cmpI; repeat' split
                 all_goals omega
  eq x y := by unfold cmpI; repeat' split
               all_goals omega
  tr x y z := by unfold cmpI; repeat' split
                 all_goals omega
theorem bl_cons (a b : UInt8) (s t : List UInt8) : Op.bytesLess (a :: s) (b :: t) = true ↔ a.toNat < b.toNat ∨ a = b ∧ Op.bytesLess s t = true := by
  have hlt : (a < b) ↔ a.toNat < b.toNat := UInt8.lt_iff_toNat_lt
  simp only [Op.bytesLess, Bool.or_eq_true, Bool.and_eq_true, decide_eq_true_eq, beq_iff_eq, hlt]
theorem bl_irr : ∀ s : List UInt8, Op.bytesLess s s = false
  | [] => rfl
  | a :: s => by
    have h := bl_cons a a s s
    rw [← Bool.not_eq_true, h, bl_irr s]
    simp
theorem bl_tri : ∀ s t : List UInt8, Op.bytesLess s t = true ∨ s = t ∨ Op.bytesLess t s = true
  | [], [] => .inr (.inl rfl)
  | [], _ :: _ => .inl rfl
  | _ :: _, [] => .inr (.inr rfl)
  | a :: s, b :: t => by
    rw [bl_cons, bl_cons]
    by_cases h : a = b
    · subst h
      rcases bl_tri s t with h | h | h
      · exact .inl (.inr ⟨rfl, h⟩)
      · exact .inr (.inl (by rw [h]))
      · exact .inr (.inr (.inr ⟨rfl, h⟩))
    · have : a.toNat ≠ b.toNat := fun e => h (UInt8.toNat_inj.1 e)
      by_cases hlt : a.toNat < b.toNat
      · exact .inl (.inl hlt)
      · exact .inr (.inr (.inl (by omega)))
theorem bl_tr : ∀ s t u : List UInt8, Op.bytesLess s t = true → Op.bytesLess t u = true → Op.bytesLess s u = true
  | [], _, [], _, h => by cases ‹List UInt8› <;> simp [Op.bytesLess] at h
  | [], _, _ :: _, _, _ => rfl
  | _ :: _, [], _, h, _ => by simp [Op.bytesLess] at h
  | _ :: _, _ :: _, [], _, h => by simp [Op.bytesLess] at h
  | a :: s, b :: t, c :: u, h1, h2 => by
    rw [bl_cons] at h1 h2 ⊢
    rcases h1 with h1 | ⟨rfl, h1⟩
    · rcases h2 with h2 | ⟨rfl, h2⟩
      · exact .inl (by omega)
      · exact .inl h1
    · rcases h2 with h2 | ⟨rfl, h2⟩
      · exact .inl h2
      · exact .inr ⟨rfl, bl_tr s t u h1 h2⟩
theorem tl_inj {a b : ByteArray} (h : a.toList = b.toList) : a = b := by
  rw [tl_data, tl_data] at h
  rw [← B_of a, ← B_of b, h]
theorem cs_lt {a b : ByteArray} (h : Op.bytesLess a.toList b.toList = true) : cmpS a b = -1 := if_pos h
theorem cs_gt {a b : ByteArray} (h : Op.bytesLess b.toList a.toList = true) : cmpS a b = 1 := by
  unfold cmpS
  have hn : ¬ Op.bytesLess a.toList b.toList = true := fun h' => by have := bl_tr _ _ _ h h'; rw [bl_irr] at this; cases this
  rw [if_neg hn, if_neg (fun e => by rw [e, bl_irr] at h; cases h)]
theorem cs_eq (a : ByteArray) : cmpS a a = 0 := by
  unfold cmpS
  rw [bl_irr, if_neg (by simp), if_pos rfl]
theorem cs_or (a b : ByteArray) : (Op.bytesLess a.toList b.toList = true ∧ cmpS a b = -1 ∧ cmpS b a = 1) ∨ (a = b ∧ cmpS a b = 0) ∨ (Op.bytesLess b.toList a.toList = true ∧ cmpS a b = 1 ∧ cmpS b a = -1) := by
  rcases bl_tri a.toList b.toList with h | h | h
  · exact .inl ⟨h, cs_lt h, cs_gt h⟩
  · have := tl_inj h; subst this; exact .inr (.inl ⟨rfl, cs_eq a⟩)
  · exact .inr (.inr ⟨h, cs_gt h, cs_lt h⟩)
theorem tot_str : Tot cmpS where
  lo x y := by rcases cs_or x y with ⟨_, h, _⟩ | ⟨_, h⟩ | ⟨_, h, _⟩ <;> omega
  anti x y := by
    rcases cs_or x y with ⟨_, h, h'⟩ | ⟨e, h⟩ | ⟨_, h, h'⟩
    · omega
    · subst e; omega
    · omega
  eq x y := by
    rcases cs_or x y with ⟨hl, h, _⟩ | ⟨e, h⟩ | ⟨hl, h, _⟩
    · exact ⟨fun e => by omega, fun e => by subst e; rw [bl_irr] at hl; cases hl⟩
    · exact ⟨fun _ => e, fun _ => h⟩
    · exact ⟨fun e => by omega, fun e => by subst e; rw [bl_irr] at hl; cases hl⟩
  tr x y z h1 h2 := by
    rcases cs_or x y with ⟨a, h, _⟩ | ⟨e, h⟩ | ⟨_, h, _⟩
    · rcases cs_or y z with ⟨b, h', _⟩ | ⟨e, h'⟩ | ⟨_, h', _⟩
      · rw [cs_lt (bl_tr _ _ _ a b)]; omega
      · subst e; omega
      · omega
    · subst e; exact h2
    · omega
theorem tot_bool : Tot (fun a b => cmpI (bitI a) (bitI b)) where
  lo x y := tot_int.lo _ _
  anti x y := tot_int.anti _ _
  eq x y := by cases x <;> cases y <;> simp [cmpI, bitI]
  tr x y z := tot_int.tr _ _ _
theorem tot_lex {α β : Type} {c : α → α → Int} {d : β → β → Int} (hc : Tot c) (hd : Tot d) : Tot (fun (x y : α × β) => orI (c x.1 y.1) (d x.2 y.2)) where
  lo x y := by unfold orI; split; exact hd.lo _ _; exact hc.lo _ _
  anti x y := by
    have h1 := hc.anti x.1 y.1
    have h2 := hd.anti x.2 y.2
    unfold orI
    split <;> split <;> omega
  eq x y := by
    unfold orI
    split
    · rename_i h
      rw [hd.eq]
      exact ⟨fun e => Prod.ext ((hc.eq _ _).1 h) e, fun e => by rw [e]⟩
    · rename_i h
      exact ⟨fun e => absurd e h, fun e => absurd ((hc.eq _ _).2 (by rw [e])) h⟩
  tr x y z h1 h2 := by
    simp only [orI] at h1 h2 ⊢
    have hxy := hc.anti x.1 y.1
    have hyz := hc.anti y.1 z.1
    have hxz := hc.anti x.1 z.1
    by_cases a : c x.1 y.1 = 0
    · have e := (hc.eq _ _).1 a
      rw [if_pos a] at h1
      rw [← e] at h2
      split
      · rename_i b
        rw [if_pos b] at h2
        exact hd.tr _ _ _ h1 h2
      · rename_i b
        rw [if_neg b] at h2
        exact h2
    · rw [if_neg a] at h1
      by_cases b : c y.1 z.1 = 0
      · have e := (hc.eq _ _).1 b
        rw [← e, if_neg a]
        exact h1
      · rw [if_neg b] at h2
        have t := hc.tr _ _ _ h1 h2
        have n : c x.1 z.1 ≠ 0 := fun e => by
          have e' := (hc.eq _ _).1 e
          rw [← e'] at h2
          omega
        rw [if_neg n]
        exact t
def tup (x : SV) : Int × Int × ByteArray × Bool := (x.f0, x.f1, x.f2, x.f3)
theorem tot_v : Tot (fun (x y : Int × Int × ByteArray × Bool) => orI (cmpI x.1 y.1) (orI (cmpI x.2.1 y.2.1) (orI (cmpS x.2.2.1 y.2.2.1) (cmpI (bitI x.2.2.2) (bitI y.2.2.2))))) :=
  tot_lex tot_int (tot_lex tot_int (tot_lex tot_str tot_bool))
theorem cv (x y : SV) : cmpV x y = (fun (x y : Int × Int × ByteArray × Bool) => orI (cmpI x.1 y.1) (orI (cmpI x.2.1 y.2.1) (orI (cmpS x.2.2.1 y.2.2.1) (cmpI (bitI x.2.2.2) (bitI y.2.2.2))))) (tup x) (tup y) := rfl
theorem cv_lo (x y : SV) : -1 ≤ cmpV x y := tot_v.lo (tup x) (tup y)
theorem cv_anti (x y : SV) : cmpV x y = -cmpV y x := tot_v.anti (tup x) (tup y)
theorem cv_tr (x y z : SV) (h1 : cmpV x y ≤ 0) (h2 : cmpV y z ≤ 0) : cmpV x z ≤ 0 := tot_v.tr (tup x) (tup y) (tup z) h1 h2
theorem cv_eq (x y : SV) : (cmpV x y = 0) ↔ x.f0 = y.f0 ∧ x.f1 = y.f1 ∧ x.f2 = y.f2 ∧ x.f3 = y.f3 := by
  rw [cv, tot_v.eq (tup x) (tup y)]
  simp [tup]
/-- What a relation answers where both values fit. -/
theorem yes_ev (op : Int) (x y : SV) (e : Bool) (hop : 6 ≤ op ∧ op ≤ 11) (hx : okV x = true) (hy : okV y = true) (hk : x.f0 = y.f0) (h3 : x.f0 ≠ 3) (he : relS op x y = e) :
    Ev (fun k => refrainlaw1_yes.f k op x.f0 x.f1 x.f2 x.f3 y.f0 y.f1 y.f2 y.f3 e) true := by
  unfold refrainlaw1_yes.f
  have hb := binary_ev op x y
  have hr : refS op 3 13 [x, y] = 0 := by
    unfold refS
    rw [if_neg (by omega), if_pos (by simp [hx, hy])]
    have hw : fitS (rd G0c0 op) x.f0 = true := by
      rcases (by omega : op = 6 ∨ op = 7 ∨ op = 8 ∨ op = 9 ∨ op = 10 ∨ op = 11) with rfl | rfl | rfl | rfl | rfl | rfl <;> simp [rd, G0c0, fitS, h3]
    rw [if_pos (by simp [hk, hw]; rw [← hk, hw])]
  have e2 : binS op x y = (3, 0, ⟨#[]⟩, e, 0) := by
    unfold binS
    rw [if_pos hr, if_neg (by omega), if_neg (by omega), if_neg (by omega), he]
  rw [e2] at hb
  refine Ev.bind (f := fun _ t => _) hb ?_
  refine Ev.congr (f := fun _ => some true) (fun k => ?_) (Ev.now _)
  simp [nil_tl]
theorem ordered_ev (x y : SV) (hx : okV x = true) (hy : okV y = true) (hk : x.f0 = y.f0) (h3 : x.f0 ≠ 3) : Ev (fun k => refrainlaw1_ordered.f k x.f0 x.f1 x.f2 x.f3 y.f0 y.f1 y.f2 y.f3) true := by
  unfold refrainlaw1_ordered.f
  refine Ev.bind (f := fun k t => _) (compare_ev x y) ?_
  refine Ev.bind (f := fun k t => _) (yes_ev 6 x y _ (by omega) hx hy hk h3 (by simp [relS])) ?_
  simp only [if_pos]
  refine Ev.bind (f := fun k t => _) (yes_ev 7 x y _ (by omega) hx hy hk h3 (by simp [relS])) ?_
  simp only [if_pos]
  refine Ev.bind (f := fun k t => _) (yes_ev 8 x y _ (by omega) hx hy hk h3 (by simp [relS])) ?_
  simp only [if_pos]
  refine Ev.bind (f := fun k t => _) (yes_ev 9 x y _ (by omega) hx hy hk h3 (by simp [relS])) ?_
  simp only [if_pos]
  refine Ev.bind (f := fun k t => _) (yes_ev 10 x y _ (by omega) hx hy hk h3 (by simp [relS])) ?_
  simp only [if_pos]
  refine Ev.bind (f := fun k t => _) (yes_ev 11 x y _ (by omega) hx hy hk h3 (by simp [relS])) ?_
  exact Ev.now _
theorem last_ev (x y : SV) : Ev (fun k => refrainlaw1_ValueOrder.j0 k false x.f0 x.f1 x.f2 x.f3 y.f0 y.f1 y.f2 y.f3) true := by
  refine Ev.step (fun k => refrainlaw1_ValueOrder.j0.eq_2 _ _ _ _ _ _ _ _ _ k) ?_
  simp only [Bool.false_eq_true, if_false, valid_f, Option.bind_some]
  by_cases hx : validV x.f0 x.f1 x.f2 x.f3 = true
  · by_cases hy : validV y.f0 y.f1 y.f2 y.f3 = true
    · by_cases hk : x.f0 = y.f0
      · by_cases h3 : x.f0 = 3
        · simp only [hx, hy, if_pos, if_pos hk, if_pos h3]; exact Ev.now _
        · simp only [hx, hy, if_pos, if_pos hk, if_neg h3]
          exact Ev.bind (f := fun k t => _) (ordered_ev x y hx hy hk h3) (Ev.now _)
      · simp only [hx, hy, if_pos, if_neg hk]; exact Ev.now _
    · simp only [hx, if_pos, if_neg hy]; exact Ev.now _
  · simp only [if_neg hx]; exact Ev.now _
theorem pureG : PureG := by
  intro x y z gx gy gz
  refine Ev.rounds (?_ : Ev (fun k => refrainlaw1_ValueOrder.f k x.f0 x.f1 x.f2 x.f3 y.f0 y.f1 y.f2 y.f3 z.f0 z.f1 z.f2 z.f3) true)
  unfold refrainlaw1_ValueOrder.f
  refine Ev.bind (f := fun k t => _) begun_ev ?_
  simp only [if_pos]
  refine Ev.bind (f := fun k t => _) (compare_ev x y) ?_
  refine Ev.bind (f := fun k t => _) (compare_ev y x) ?_
  refine Ev.bind (f := fun k t => _) (compare_ev y z) ?_
  refine Ev.bind (f := fun k t => _) (compare_ev x z) ?_
  have a1 := cv_anti x y
  have a2 := cv_anti y z
  have a3 := cv_anti x z
  have l1 := cv_lo x y
  have l2 := cv_lo y x
  have q1 : ((cmpV x y == 0) != (x.f0 == y.f0 && (x.f1 == y.f1 && (x.f2.toList == y.f2.toList && (x.f3 == y.f3))))) = false := by
    have e := cv_eq x y
    have : (cmpV x y == 0) = (x.f0 == y.f0 && (x.f1 == y.f1 && (x.f2.toList == y.f2.toList && (x.f3 == y.f3)))) := by
      rw [Bool.eq_iff_iff]
      simp only [beq_iff_eq, Bool.and_eq_true, e]
      exact ⟨fun ⟨a, b, c, d⟩ => ⟨a, b, by rw [c], d⟩, fun ⟨a, b, c, d⟩ => ⟨a, b, tl_inj c, d⟩⟩
    rw [this]; simp
  simp only [if_neg (show ¬ cmpV x y < -1 by omega), if_neg (show ¬ cmpV x y > 1 by omega), if_pos (show cmpV x y = wrap64 (-cmpV y x) by rw [w64 (by omega) (by omega)]; omega), q1, Bool.false_eq_true, if_false]
  have fin := last_ev x y
  by_cases p : cmpV x y ≤ 0
  · by_cases q : cmpV y z ≤ 0
    · have t := cv_tr x y z p q
      simp only [if_pos p, if_pos q, if_neg (show ¬ cmpV x z > 0 by omega)]
      by_cases p' : cmpV x y ≥ 0
      · by_cases q' : cmpV y z ≥ 0
        · have t' := cv_tr z y x (by omega) (by omega)
          have a4 := cv_anti z x
          simp only [if_pos p', if_pos q', decide_eq_false (show ¬ cmpV x z < 0 by omega)]
          exact fin
        · simp only [if_pos p', if_neg q']; exact fin
      · simp only [if_neg p']; exact fin
    · simp only [if_pos p, if_neg q]
      by_cases p' : cmpV x y ≥ 0
      · by_cases q' : cmpV y z ≥ 0
        · have t' := cv_tr z y x (by omega) (by omega)
          simp only [if_pos p', if_pos q', decide_eq_false (show ¬ cmpV x z < 0 by omega)]
          exact fin
        · simp only [if_pos p', if_neg q']; exact fin
      · simp only [if_neg p']; exact fin
  · simp only [if_neg p]
    by_cases p' : cmpV x y ≥ 0
    · by_cases q' : cmpV y z ≥ 0
      · have t' := cv_tr z y x (by omega) (by omega)
        simp only [if_pos p', if_pos q', decide_eq_false (show ¬ cmpV x z < 0 by omega)]
        exact fin
      · simp only [if_pos p', if_neg q']; exact fin
    · simp only [if_neg p']; exact fin
end Go.Proofs.YthhpeeckiggpaaaDoor.valueOrder

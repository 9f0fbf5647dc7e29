import Derived.Test.YthmcapdakplhdaaDoorPuTokB
import Derived.Test.YthmcapdakplhdaaDoorOpnTokenBack
namespace Go.Proofs.YthmcapdakplhdaaDoor.tokenBack
open Go Go.RowKit Go.Proofs.YthmcapdakplhdaaDoor.Pr Go.Proofs.YthmcapdakplhdaaDoor.Opn Go.Proofs.YthmcapdakplhdaaDoor.Pu Go.Proofs.YthmcapdakplhdaaDoorW.PrintWords Go.Proofs.YthmcapdakplhdaaDoorW.PrintLast Go.Proofs.YthmcapdakplhdaaDoorW.PrintMore
set_option linter.unusedVariables false
set_option linter.unusedSimpArgs false
set_option maxRecDepth 100000

theorem bk_can (l : List TK) (h : ∀ g ∈ l, GoodT g) : spellOk canT l = true := by
  induction l with
  | nil => rfl
  | cons g r ih =>
    rw [spellOk, (h g (List.mem_cons_self ..)).can, Bool.true_and]
    exact ih fun x hx => h x (List.mem_cons_of_mem _ hx)
/-- The text behind the first token. -/
def tailJ : List TK → List UInt8
  | [] => []
  | g :: r => 32 :: (wl g ++ tailJ r)
theorem tailJ_ends (l : List TK) : EndsT (tailJ l) := by
  cases l with
  | nil => exact Or.inl rfl
  | cons g r => exact Or.inr ⟨32, _, rfl, by decide⟩
theorem tailJ_len (l : List TK) (h : ∀ g ∈ l, GoodT g) : (tailJ l).length ≤ 803 * l.length := by
  induction l with
  | nil => simp [tailJ]
  | cons g r ih =>
    have h1 := (h g (List.mem_cons_self ..)).size
    have h2 := ih fun x hx => h x (List.mem_cons_of_mem _ hx)
    simp only [tailJ, List.length_cons, List.length_append]
    omega
def joinJ : List TK → List UInt8
  | [] => []
  | g :: r => wl g ++ tailJ r
theorem spellW_tail (l : List TK) (h : ∀ g ∈ l, GoodT g) : ∀ acc : List UInt8, 0 < acc.length → acc.length + (tailJ l).length ≤ 4096 → spellW quoB l acc = (B (acc ++ tailJ l), 0) := by
  induction l with
  | nil => intro acc _ _; simp [spellW, tailJ]; rfl
  | cons g r ih =>
    intro acc ha hl
    have hg := h g (List.mem_cons_self ..)
    simp only [tailJ, List.length_cons, List.length_append] at hl
    rw [spellW, if_neg hg.ne5]
    have e : (if 0 < acc.length then acc ++ [32] else acc) ++ (if g.f0 = 3 then quoB g.f1 else g.f1).data.toList = acc ++ 32 :: wl g := by
      rw [if_pos ha]
      unfold wl
      simp
    rw [e, if_neg (by simp only [List.length_append, List.length_cons]; omega), ih (fun x hx => h x (List.mem_cons_of_mem _ hx)) _ (by simp only [List.length_append, List.length_cons]; omega) (by simp only [List.length_append, List.length_cons]; omega)]
    simp [tailJ]
theorem spellW_join (l : List TK) (h : ∀ g ∈ l, GoodT g) (hl : (joinJ l).length ≤ 4096) : spellW quoB l [] = (B (joinJ l), 0) := by
  cases l with
  | nil => rfl
  | cons g r =>
    have hg := h g (List.mem_cons_self ..)
    simp only [joinJ, List.length_append] at hl
    rw [spellW, if_neg hg.ne5]
    have e : (if 0 < ([] : List UInt8).length then [] ++ [32] else []) ++ (if g.f0 = 3 then quoB g.f1 else g.f1).data.toList = wl g := by
      rw [if_neg (by simp)]
      rfl
    rw [e, if_neg (by omega), spellW_tail r (fun x hx => h x (List.mem_cons_of_mem _ hx)) _ (by have := hg.size; omega) (by omega)]
    rfl
/-- The tokens behind the first, each at its place. -/
def toksT : List TK → Nat → List TK
  | [], pos => [⟨5, B [], (pos : Int)⟩]
  | g :: r, pos => ⟨g.f0, g.f1, ((pos + 1 : Nat) : Int)⟩ :: toksT r (pos + 1 + (wl g).length)
theorem scT (l : List TK) (h : ∀ g ∈ l, GoodT g) : ∀ (out : List TK) (pos : Nat), Sc (tailJ l) out pos (out ++ toksT l pos, 0, 0) := by
  induction l with
  | nil => intro out pos; exact Sc.nil out pos
  | cons g r ih =>
    intro out pos
    have hg := h g (List.mem_cons_self ..)
    have := ih (fun x hx => h x (List.mem_cons_of_mem _ hx)) (out ++ [⟨g.f0, g.f1, ((pos + 1 : Nat) : Int)⟩]) (pos + 1 + (wl g).length)
    rw [List.append_assoc] at this
    exact Sc.blank (by decide) (hg.scan (tailJ_ends r) this)
def toksJ : List TK → List TK
  | [] => [⟨5, B [], 0⟩]
  | g :: r => ⟨g.f0, g.f1, 0⟩ :: toksT r (wl g).length
theorem scJ (l : List TK) (h : ∀ g ∈ l, GoodT g) (hl : (joinJ l).length ≤ 4096) : scan (joinJ l) = (toksJ l, 0, 0) := by
  unfold scan
  rw [if_neg (by omega)]
  cases l with
  | nil => rfl
  | cons g r =>
    have hg := h g (List.mem_cons_self ..)
    have := scT r (fun x hx => h x (List.mem_cons_of_mem _ hx)) ([] ++ [⟨g.f0, g.f1, ((0 : Nat) : Int)⟩]) (0 + (wl g).length)
    have h2 := hg.scan (tailJ_ends r) this
    rw [show joinJ (g :: r) = wl g ++ tailJ r from rfl]
    rw [h2 _ (by omega)]
    simp [toksJ]
/-- Each stands where its place says. -/
def Placed (L : List UInt8) : Int → List TK → Prop
  | _, [] => True
  | last, t :: r => last < t.f2 ∧ 0 ≤ t.f2 ∧ t.f2 ≤ (L.length : Int) ∧ ((t.f0 = 1 ∨ t.f0 = 2 ∨ t.f0 = 4) → ∃ p q : List UInt8, L = p ++ t.f1.data.toList ++ q ∧ t.f2 = (p.length : Int)) ∧ Placed L t.f2 r
theorem wl_plain {g : TK} (h : g.f0 = 1 ∨ g.f0 = 2 ∨ g.f0 = 4) : wl g = g.f1.data.toList := by unfold wl; rw [if_neg (by omega)]
theorem placedT (l : List TK) (h : ∀ g ∈ l, GoodT g) : ∀ (L pre : List UInt8) (last : Int), L = pre ++ tailJ l → last < (pre.length : Int) → Placed L last (toksT l pre.length) := by
  induction l with
  | nil =>
    intro L pre last hL hlast
    rw [tailJ, List.append_nil] at hL
    subst hL
    exact ⟨hlast, by simp, by simp, fun h => by simp at h, trivial⟩
  | cons g r ih =>
    intro L pre last hL hlast
    have hg := h g (List.mem_cons_self ..)
    rw [tailJ] at hL
    have hw := hg.size
    have hLl : L.length = pre.length + 1 + (wl g).length + (tailJ r).length := by rw [hL]; simp; omega
    refine ⟨by show last < ((pre.length + 1 : Nat) : Int); omega, by show (0 : Int) ≤ ((pre.length + 1 : Nat) : Int); omega, by show ((pre.length + 1 : Nat) : Int) ≤ _; omega, fun hk => ?_, ?_⟩
    · refine ⟨pre ++ [32], tailJ r, ?_, by simp⟩
      rw [hL, show (⟨g.f0, g.f1, ((pre.length + 1 : Nat) : Int)⟩ : TK).f1 = g.f1 from rfl, ← wl_plain (g := g) hk]
      simp
    · have := ih (fun x hx => h x (List.mem_cons_of_mem _ hx)) L (pre ++ 32 :: wl g) ((pre.length + 1 : Nat) : Int) (by rw [hL]; simp) (by simp; omega)
      rw [show (pre ++ 32 :: wl g).length = pre.length + 1 + (wl g).length by simp; omega] at this
      exact this
theorem placedJ (l : List TK) (h : ∀ g ∈ l, GoodT g) : Placed (joinJ l) (-1) (toksJ l) := by
  cases l with
  | nil => exact ⟨by decide, by decide, by decide, fun h => by simp at h, trivial⟩
  | cons g r =>
    have hg := h g (List.mem_cons_self ..)
    have hw := hg.size
    refine ⟨by show (-1 : Int) < 0; omega, by show (0 : Int) ≤ 0; omega, by show (0 : Int) ≤ _; omega, fun hk => ⟨[], tailJ r, ?_, rfl⟩, ?_⟩
    · rw [show (⟨g.f0, g.f1, 0⟩ : TK).f1 = g.f1 from rfl, ← wl_plain (g := g) hk]
      rfl
    · exact placedT r (fun x hx => h x (List.mem_cons_of_mem _ hx)) _ (wl g) 0 rfl (by omega)
theorem lastT (l : List TK) : ∀ pos : Nat, ∃ a : List TK, toksT l pos = a ++ [⟨5, B [], ((pos + (tailJ l).length : Nat) : Int)⟩] ∧ a.length = l.length ∧ ∀ (i : Nat) (h : i < l.length) (h2 : i < a.length), a[i].f0 = l[i].f0 ∧ a[i].f1 = l[i].f1 := by
  induction l with
  | nil => intro pos; exact ⟨[], rfl, rfl, fun i h => by simp at h⟩
  | cons g r ih =>
    intro pos
    obtain ⟨a, h1, h2, h3⟩ := ih (pos + 1 + (wl g).length)
    refine ⟨⟨g.f0, g.f1, ((pos + 1 : Nat) : Int)⟩ :: a, ?_, by simp [h2], ?_⟩
    · rw [toksT, h1, List.cons_append]
      congr 4
      simp only [tailJ, List.length_cons, List.length_append]
      omega
    · intro i h h'
      cases i with
      | zero => exact ⟨rfl, rfl⟩
      | succ i => exact h3 i (by simpa using h) (by simpa using h')
theorem lastJ (l : List TK) : ∃ a : List TK, toksJ l = a ++ [⟨5, B [], (((joinJ l).length : Nat) : Int)⟩] ∧ a.length = l.length ∧ ∀ (i : Nat) (h : i < l.length) (h2 : i < a.length), a[i].f0 = l[i].f0 ∧ a[i].f1 = l[i].f1 := by
  cases l with
  | nil => exact ⟨[], rfl, rfl, fun i h => by simp at h⟩
  | cons g r =>
    obtain ⟨a, h1, h2, h3⟩ := lastT r (wl g).length
    refine ⟨⟨g.f0, g.f1, 0⟩ :: a, ?_, by simp [h2], ?_⟩
    · rw [toksJ, h1, List.cons_append]
      congr 4
      simp only [joinJ, List.length_append]
    · intro i h h'
      cases i with
      | zero => exact ⟨rfl, rfl⟩
      | succ i => exact h3 i (by simpa using h) (by simpa using h')
theorem round (s : List UInt8) (hs : s.length ≤ 4096) (m done : List TK) (t : TK) (r : List TK) (last : Int) (hm : m = done ++ t :: r) (hml : m.length ≤ 1000000) (hp : Placed s last (t :: r)) (res : Bool)
    (h : Ev (fun k => refrainlaw5_TokenBack.l1 k (B s) m t.f2 (((done ++ [t]).length : Nat) : Int)) res) : Ev (fun k => refrainlaw5_TokenBack.l1 k (B s) m last ((done.length : Nat) : Int)) res := by
  obtain ⟨p1, p2, p3, p4, _⟩ := hp
  have hd : done.length < m.length := by rw [hm]; simp
  have e : rd_T44 m ((done.length : Nat) : Int) = t := by
    rw [rdT m _ hd]
    simp [hm]
  have e2 : wrap64 (((done.length : Nat) : Int) + 1) = (((done ++ [t]).length : Nat) : Int) := by rw [w64 (by omega) (by omega)]; simp
  refine Ev.step (f := fun k => refrainlaw5_TokenBack.j4 k (B s) m ((done.length : Nat) : Int) false t.f0 t.f1 t.f2) (fun k => ?_) ?_
  · simp only [refrainlaw5_TokenBack.l1]
    rw [if_pos (by omega), if_pos (by omega), e, if_neg (by omega), if_neg (by rw [B_size]; omega), if_neg (by omega)]
  have plain : (t.f0 = 1 ∨ t.f0 = 2 ∨ t.f0 = 4) → ∀ k, (if (wrap64 (t.f2 + (t.f1.size : Int))) > ((B s).size : Int) then some false else (if 0 ≤ t.f2 then (if t.f2 ≤ (wrap64 (t.f2 + (t.f1.size : Int))) then (if (wrap64 (t.f2 + (t.f1.size : Int))) ≤ ((B s).size : Int) then (if ((B s).extract (t.f2 : Int).toNat ((wrap64 (t.f2 + (t.f1.size : Int))) : Int).toNat).toList = t.f1.toList then (refrainlaw5_TokenBack.l1 k (B s) m t.f2 (wrap64 (((done.length : Nat) : Int) + 1))) else (some false)) else (none)) else (none)) else (none))) = refrainlaw5_TokenBack.l1 k (B s) m t.f2 (((done ++ [t]).length : Nat) : Int) := by
    intro hk k
    obtain ⟨p, q, hs2, ht⟩ := p4 hk
    have hl : s.length = p.length + t.f1.size + q.length := by rw [hs2, ← Pu.data_len t.f1]; simp; omega
    have w : wrap64 (t.f2 + (t.f1.size : Int)) = ((p.length + t.f1.size : Nat) : Int) := by rw [w64 (by omega) (by omega)]; omega
    have hx : ((B s).extract (t.f2 : Int).toNat (((p.length + t.f1.size : Nat) : Int)).toNat).toList = t.f1.toList := by
      rw [ht, Int.toNat_natCast, Int.toNat_natCast, hs2, List.append_assoc, B_ext_mid, Pu.tl_data, Pu.tl_data, B_data, ← Pu.data_len t.f1, List.take_left' rfl]
    rw [w, if_neg (by rw [B_size]; omega), if_pos p2, if_pos (by omega), if_pos (by rw [B_size]; omega), if_pos hx, e2]
  refine Ev.step (f := fun k => refrainlaw5_TokenBack.l1 k (B s) m t.f2 (((done ++ [t]).length : Nat) : Int)) (fun k => ?_) h
  simp only [refrainlaw5_TokenBack.j4]
  rw [if_neg (by simp)]
  by_cases k1 : t.f0 = 1
  · rw [if_pos k1]; exact plain (Or.inl k1) k
  by_cases k2 : t.f0 = 2
  · rw [if_neg k1, if_pos k2]; exact plain (Or.inr (Or.inl k2)) k
  by_cases k4 : t.f0 = 4
  · rw [if_neg k1, if_neg k2, if_pos k4]; exact plain (Or.inr (Or.inr k4)) k
  rw [if_neg k1, if_neg k2, if_neg k4, e2]
theorem rounds (s : List UInt8) (hs : s.length ≤ 4096) (m : List TK) (hml : m.length ≤ 1000000) (a : List TK) (e : TK) (hm : m = a ++ [e]) (he : e.f2 = ((s.length : Nat) : Int)) : ∀ (r done : List TK) (last : Int), m = done ++ r → Placed s last r →
    Ev (fun k => refrainlaw5_TokenBack.l1 k (B s) m last ((done.length : Nat) : Int)) true := by
  intro r
  induction r with
  | nil =>
    intro done last hd _
    rw [List.append_nil] at hd
    have hlen : m.length = a.length + 1 := by rw [hm]; simp
    refine Ev.step (f := fun _ => some true) (fun k => ?_) (Ev.now _)
    simp only [refrainlaw5_TokenBack.l1]
    have w : wrap64 ((m.length : Int) - 1) = ((a.length : Nat) : Int) := by rw [w64 (by omega) (by omega)]; omega
    have er : rd_T44 m ((a.length : Nat) : Int) = e := by
      rw [rdT m _ (by omega)]
      simp [hm]
    rw [if_neg (by rw [← hd]; omega), w, if_pos (by omega), if_pos (by omega), er, he, B_size]
    simp
  | cons t r ih =>
    intro done last hd hp
    exact round s hs m done t r last hd hml hp true (ih (done ++ [t]) t.f2 (by rw [hd]; simp) hp.2.2.2.2)
theorem behind (l : List TK) (h : ∀ g ∈ l, GoodT g) (hl : l.length ≤ 4) : Ev (fun k => refrainlaw5_TokenBack.j1 k l) true := by
  have hjl : (joinJ l).length ≤ 4096 := by
    cases l with
    | nil => simp [joinJ]
    | cons g r =>
      have h1 := (h g (List.mem_cons_self ..)).size
      have h2 := tailJ_len r fun x hx => h x (List.mem_cons_of_mem _ hx)
      simp only [joinJ, List.length_append, List.length_cons] at hl ⊢
      omega
  have hsp : token_Spell.f l = some (B (joinJ l), 0) := by
    unfold token_Spell.f
    rw [if_pos ⟨by omega, fun t ht => by have := (h t ht).size; omega⟩, if_pos (bk_can l h), spellW_join l h hjl]
  obtain ⟨a, ha, hal, h3⟩ := lastJ l
  have hsc := scan_ev (joinJ l)
  rw [scJ l h hjl] at hsc
  refine Ev.step (f := fun k => (token_Scan.f k (B (joinJ l))).bind fun bt => (if bt.2.2 = 0 then (if bt.2.1 = 0 then ((refrainlaw5_alike.f k l bt.1).bind fun t => refrainlaw5_TokenBack.j2 k (B (joinJ l)) bt.1 (!t)) else refrainlaw5_TokenBack.j2 k (B (joinJ l)) bt.1 true) else refrainlaw5_TokenBack.j2 k (B (joinJ l)) bt.1 true)) (fun k => ?_) ?_
  · simp only [refrainlaw5_TokenBack.j1]
    rw [hsp, Option.bind_some]
    simp only [if_pos]
  refine Ev.bind (f := fun k bt => _) hsc ?_
  simp only [if_pos]
  rw [ha]
  refine Ev.bind (f := fun k t => _) (alike_ev l a _ rfl rfl (by omega) hal h3) ?_
  refine Ev.step (f := fun k => refrainlaw5_TokenBack.l1 k (B (joinJ l)) (a ++ [⟨5, B [], (((joinJ l).length : Nat) : Int)⟩]) (-1) 0) (fun k => ?_) ?_
  · simp only [refrainlaw5_TokenBack.j2]
    rw [if_neg (by simp)]
  have hp := placedJ l h
  rw [ha] at hp
  exact rounds (joinJ l) hjl _ (by simp [hal]; omega) a _ rfl rfl _ [] (-1) rfl hp
theorem loop0 (x0 : List TK) (hx : x0.length ≤ 281474976710656) (hs : ∀ t ∈ x0, t.f1.size ≤ 140737488351232) : ∀ (m i : Nat) (l : List TK), 4 - i = m → i ≤ 4 → i ≤ x0.length → l.length = i → (∀ g ∈ l, GoodT g) → Ev (fun k => refrainlaw5_TokenBack.l0 k x0 l (i : Int)) true := by
  intro m
  induction m with
  | zero =>
    intro i l hm hi hxi hl hg
    obtain rfl : i = 4 := by omega
    refine Ev.step (f := fun k => refrainlaw5_TokenBack.j1 k l) (fun k => ?_) (behind l hg (by omega))
    simp only [refrainlaw5_TokenBack.l0]
    by_cases c : ((4 : Nat) : Int) < (x0.length : Int)
    · rw [if_pos c, if_neg (by omega)]
    · rw [if_neg c]
  | succ m ih =>
    intro i l hm hi hxi hl hg
    by_cases c : i < x0.length
    · obtain ⟨g, hgg, hev⟩ := plainest_ev x0[i] (hs _ (List.getElem_mem c))
      have := ih (i + 1) (l ++ [g]) (by omega) (by omega) (by omega) (by simp [hl]) (by
        intro x hx
        rcases List.mem_append.1 hx with h | h
        · exact hg x h
        · rw [List.mem_singleton] at h; subst h; exact hgg)
      refine Ev.step (f := fun k => (refrainlaw5_plainest.f k (x0[i]).f0 (x0[i]).f1 (x0[i]).f2).bind fun bt => refrainlaw5_TokenBack.l0 k x0 (l ++ [(⟨bt.1, bt.2.1, bt.2.2⟩ : TK)]) ((i + 1 : Nat) : Int)) (fun k => ?_) (Ev.bind (f := fun k bt => _) hev this)
      simp only [refrainlaw5_TokenBack.l0]
      rw [if_pos (by omega), if_pos (by omega), if_pos (by omega), rdT x0 i c, w64 (by omega) (by omega)]
      congr 1
      funext bt
      rw [if_pos (by omega)]
      rfl
    · refine Ev.step (f := fun k => refrainlaw5_TokenBack.j1 k l) (fun k => ?_) (behind l hg (by omega))
      simp only [refrainlaw5_TokenBack.l0]
      rw [if_neg (by omega)]
theorem pureG : PureG := by
  intro x0 g0
  refine Ev.rounds (?_ : Ev (fun k => refrainlaw5_TokenBack.f k x0) true)
  unfold refrainlaw5_TokenBack.f
  have n0 := g0.2.1
  exact loop0 x0 (by omega) (fun t ht => (g0.2.2 t ht).2.1) 4 0 [] rfl (by omega) (by omega) rfl (fun g h => by cases h)
end Go.Proofs.YthmcapdakplhdaaDoor.tokenBack

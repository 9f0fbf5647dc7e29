import Derived.Test.YthmcapdakplhdaaDoorPuTokB
import Derived.Test.YthmcapdakplhdaaDoorOpnTokenFilled
namespace Go.Proofs.YthmcapdakplhdaaDoor.tokenFilled
open Go Go.RowKit Go.Proofs.YthmcapdakplhdaaDoor.Pr Go.Proofs.YthmcapdakplhdaaDoor.Opn Go.Proofs.YthmcapdakplhdaaDoor.Pu Go.Proofs.YthmcapdakplhdaaDoorW.PrintWords Go.Proofs.YthmcapdakplhdaaDoorW.PrintLast Go.Proofs.YthmcapdakplhdaaDoorW.PrintMore
set_option linter.unusedVariables false
set_option linter.unusedSimpArgs false
set_option maxRecDepth 100000

/-- What may stand between two tokens. -/
structure FillT (F : List UInt8) : Prop where
  starts : ∃ c t, F = c :: t ∧ begL c = 1
  skip : ∀ (rest : List UInt8) (out : List TK) (pos : Nat) (R : List TK × Int × Int), Sc rest out (pos + F.length) R → Sc (F ++ rest) out pos R
theorem FillT.ends {F : List UInt8} (h : FillT F) (rest : List UInt8) : EndsT (F ++ rest) := by
  obtain ⟨c, t, rfl, hc⟩ := h.starts
  exact Or.inr ⟨c, t ++ rest, rfl, hc⟩
theorem fill0 : FillT [10] := ⟨⟨10, [], rfl, by decide⟩, fun rest out pos R h => Sc.blank (by decide) h⟩
theorem fill1 : FillT [9, 32, 13, 10] := ⟨⟨9, _, rfl, by decide⟩, fun rest out pos R h => Sc.blank (by decide) (Sc.blank (by decide) (Sc.blank (by decide) (Sc.blank (by decide) h)))⟩
theorem fill4 : FillT [32, 32] := ⟨⟨32, _, rfl, by decide⟩, fun rest out pos R h => Sc.blank (by decide) (Sc.blank (by decide) h)⟩
theorem fill2 (b : List UInt8) (hb : ∀ c ∈ b, c.toNat ≠ 10) : FillT ([32, 45, 45] ++ b ++ [10]) := by
  refine ⟨⟨32, _, rfl, by decide⟩, fun rest out pos R h => ?_⟩
  have e : ([32, 45, 45] ++ b ++ [10]) ++ rest = 32 :: 45 :: 45 :: (b ++ 10 :: rest) := by simp
  rw [e]
  refine Sc.blank (by decide) (Sc.comment hb (Sc.blank (by decide) ?_))
  rw [show pos + 1 + (b.length + 2) + 1 = pos + ([32, 45, 45] ++ b ++ [10]).length by simp; omega]
  exact h
theorem fill3 (b : List UInt8) (hb : ∀ c ∈ b, c.toNat ≠ 10) : FillT ([32, 45, 45, 32, 120, 10, 45, 45] ++ b ++ [10, 32]) := by
  refine ⟨⟨32, _, rfl, by decide⟩, fun rest out pos R h => ?_⟩
  have e : ([32, 45, 45, 32, 120, 10, 45, 45] ++ b ++ [10, 32]) ++ rest = 32 :: 45 :: 45 :: ([32, 120] ++ 10 :: (45 :: 45 :: (b ++ 10 :: (32 :: rest)))) := by simp
  rw [e]
  refine Sc.blank (by decide) (Sc.comment (by decide) (Sc.blank (by decide) (Sc.comment hb (Sc.blank (by decide) (Sc.blank (by decide) ?_)))))
  rw [show pos + 1 + (([32, 120] : List UInt8).length + 2) + 1 + (b.length + 2) + 1 + 1 = pos + ([32, 45, 45, 32, 120, 10, 45, 45] ++ b ++ [10, 32]).length by simp; omega]
  exact h
theorem fill_end (x0 : Int) (x1 : ByteArray) (i : Int) (b : List UInt8) (hb : ∀ c ∈ b, c.toNat ≠ 10) (hl : b.length ≤ 20) :
    ∃ F, FillT F ∧ F.length ≤ 30 ∧ ∀ k, refrainlaw5_filler.j1 (k + 1) x0 x1 (b.map fun c => (c.toNat : Int)) i false = some (B F) := by
  have hs : strOfNums (b.map fun c => (c.toNat : Int)) = B b := strOfNums_bytes b
  have e3 : (⟨#[32, 45, 45]⟩ : ByteArray) = B [32, 45, 45] := rfl
  have e8 : (⟨#[32, 45, 45, 32, 120, 10, 45, 45]⟩ : ByteArray) = B [32, 45, 45, 32, 120, 10, 45, 45] := rfl
  have e1 : (⟨#[10]⟩ : ByteArray) = B [10] := rfl
  have e2 : (⟨#[10, 32]⟩ : ByteArray) = B [10, 32] := rfl
  by_cases k0 : Int.tmod x0 5 = 0
  · refine ⟨_, fill0, by decide, fun k => ?_⟩
    simp only [refrainlaw5_filler.j1]
    rw [if_neg (by simp), if_pos k0]
    rfl
  by_cases k1 : Int.tmod x0 5 = 1
  · refine ⟨_, fill1, by decide, fun k => ?_⟩
    simp only [refrainlaw5_filler.j1]
    rw [if_neg (by simp), if_neg k0, if_pos k1]
    rfl
  by_cases k2 : Int.tmod x0 5 = 2
  · refine ⟨_, fill2 b hb, by simp; omega, fun k => ?_⟩
    simp only [refrainlaw5_filler.j1]
    rw [if_neg (by simp), if_neg k0, if_neg k1, if_pos k2, hs, e3, e1, B_append, B_append, if_pos (by rw [B_size]; omega), if_pos (by rw [B_size]; simp; omega)]
  by_cases k3 : Int.tmod x0 5 = 3
  · refine ⟨_, fill3 b hb, by simp; omega, fun k => ?_⟩
    simp only [refrainlaw5_filler.j1]
    rw [if_neg (by simp), if_neg k0, if_neg k1, if_neg k2, if_pos k3, hs, e8, e2, B_append, B_append, if_pos (by rw [B_size]; omega), if_pos (by rw [B_size]; simp; omega)]
  · refine ⟨_, fill4, by decide, fun k => ?_⟩
    simp only [refrainlaw5_filler.j1]
    rw [if_neg (by simp), if_neg k0, if_neg k1, if_neg k2, if_neg k3]
    rfl
theorem fill_run (x0 : Int) (l : List UInt8) (hn : l.length ≤ 140737488351232) : ∀ (rest pre b : List UInt8), pre ++ rest = l → b.length ≤ pre.length → pre.length ≤ 20 → (∀ c ∈ b, c.toNat ≠ 10) →
    ∃ F, FillT F ∧ F.length ≤ 30 ∧ Ev (fun k => refrainlaw5_filler.l0 k x0 (B l) (b.map fun c => (c.toNat : Int)) (pre.length : Int)) (B F) := by
  intro rest
  induction rest with
  | nil =>
    intro pre b hp hbl hp20 hb
    rw [List.append_nil] at hp
    subst hp
    obtain ⟨F, hF, hFl, h⟩ := fill_end x0 (B pre) (pre.length : Int) b hb (by omega)
    refine ⟨F, hF, hFl, Ev.step (f := fun k => refrainlaw5_filler.j1 k x0 (B pre) (b.map fun c => (c.toNat : Int)) (pre.length : Int) false) (fun k => ?_) (Ev.step (f := fun _ => some _) h (Ev.now _))⟩
    simp only [refrainlaw5_filler.l0]
    rw [if_neg (by rw [B_size]; omega)]
  | cons c t ih =>
    intro pre b hp hbl hp20 hb
    have hlt : pre.length < l.length := by rw [← hp]; simp
    by_cases h20 : pre.length = 20
    · obtain ⟨F, hF, hFl, h⟩ := fill_end x0 (B l) (pre.length : Int) b hb (by omega)
      refine ⟨F, hF, hFl, Ev.step (f := fun k => refrainlaw5_filler.j1 k x0 (B l) (b.map fun c => (c.toNat : Int)) (pre.length : Int) false) (fun k => ?_) (Ev.step (f := fun _ => some _) h (Ev.now _))⟩
      simp only [refrainlaw5_filler.l0]
      rw [if_pos (by rw [B_size]; omega)]
      congr 1
      exact decide_eq_false (by omega)
    have hbt : bt (B l) (pre.length : Int) = (c.toNat : Int) := by rw [← hp, bt_mid]
    have w : wrap64 ((pre.length : Int) + 1) = (((pre ++ [c]).length : Nat) : Int) := by rw [w64 (by omega) (by omega)]; simp
    have s1 : ∀ k, refrainlaw5_filler.l0 (k + 1) x0 (B l) (b.map fun c => (c.toNat : Int)) (pre.length : Int) = refrainlaw5_filler.j1 k x0 (B l) (b.map fun c => (c.toNat : Int)) (pre.length : Int) true := by
      intro k
      simp only [refrainlaw5_filler.l0]
      rw [if_pos (by rw [B_size]; omega)]
      congr 1
      exact decide_eq_true (by omega)
    by_cases h10 : c.toNat = 10
    · obtain ⟨F, hF, hFl, h⟩ := ih (pre ++ [c]) b (by rw [← hp]; simp) (by simp; omega) (by simp; omega) hb
      refine ⟨F, hF, hFl, Ev.step s1 (Ev.step (fun k => ?_) h)⟩
      simp only [refrainlaw5_filler.j1]
      rw [if_pos trivial, if_pos (by omega), if_pos (by rw [B_size]; omega), hbt, if_pos (by omega), w]
    · obtain ⟨F, hF, hFl, h⟩ := ih (pre ++ [c]) (b ++ [c]) (by rw [← hp]; simp) (by simp; omega) (by simp; omega) (by
        intro d hd
        rcases List.mem_append.1 hd with h | h
        · exact hb d h
        · rw [List.mem_singleton] at h; subst h; exact h10)
      refine ⟨F, hF, hFl, Ev.step s1 (Ev.step (fun k => ?_) h)⟩
      simp only [refrainlaw5_filler.j1]
      rw [if_pos trivial, if_pos (by omega), if_pos (by rw [B_size]; omega), hbt, if_neg (by omega), if_pos (by simp; omega), w]
      simp
theorem filler_ev (x0 : Int) (x1 : ByteArray) (h : x1.size ≤ 140737488351232) : ∃ F, FillT F ∧ F.length ≤ 30 ∧ Ev (fun k => refrainlaw5_filler.f k x0 x1) (B F) := by
  obtain ⟨F, hF, hl, hev⟩ := fill_run x0 x1.data.toList (by rw [Pu.data_len]; exact h) x1.data.toList [] [] rfl (by simp) (by simp) (by simp)
  rw [B_of] at hev
  exact ⟨F, hF, hl, hev⟩
/-- A text that holds these tokens, fillers between them. -/
def Built (S : List UInt8) (l : List TK) : Prop := ∃ ts : Nat → List TK, (∀ pos, (ts pos).map (fun t => (t.f0, t.f1)) = l.map (fun t => (t.f0, t.f1))) ∧
  ∀ (rest : List UInt8) (out : List TK) (pos : Nat) (R : List TK × Int × Int), EndsT rest → Sc rest (out ++ ts pos) (pos + S.length) R → Sc (S ++ rest) out pos R
theorem Built.nil : Built [] [] := ⟨fun _ => [], fun _ => rfl, fun rest out pos R _ h => by simpa using h⟩
theorem Built.step {S F : List UInt8} {l : List TK} {g : TK} (h : Built S l) (hF : FillT F) (hg : GoodT g) : Built (S ++ F ++ wl g) (l ++ [g]) := by
  obtain ⟨ts, h1, h2⟩ := h
  refine ⟨fun pos => ts pos ++ [⟨g.f0, g.f1, ((pos + S.length + F.length : Nat) : Int)⟩], fun pos => by rw [List.map_append, List.map_append, h1]; rfl, fun rest out pos R he hr => ?_⟩
  rw [List.append_assoc, List.append_assoc]
  refine h2 _ out pos R (hF.ends _) (hF.skip _ _ _ _ (hg.scan he ?_))
  rw [List.append_assoc, show pos + S.length + F.length + (wl g).length = pos + (S ++ F ++ wl g).length by simp; omega]
  exact hr
theorem good_cut {g : TK} (h : GoodT g) (hs : g.f1.size > 60) : GoodT ⟨g.f0, g.f1.extract 0 60, g.f2⟩ := by
  obtain ⟨h0, h | h | h | h⟩ := h
  · obtain ⟨_, c, t, hc, _, _, hl⟩ := h
    rw [hc, B_size] at hs
    omega
  · obtain ⟨_, c, t, hc, _, _, hl, _⟩ := h
    rw [hc, B_size] at hs
    omega
  · refine ⟨h0, Or.inr (Or.inr (Or.inl ⟨h.1, ?_⟩))⟩
    show (g.f1.extract 0 60).size ≤ 200
    rw [ByteArray.size_extract]
    omega
  · obtain ⟨_, w, hw, hc⟩ := h
    have := sign_len hw
    rw [hc, B_size] at hs
    omega
theorem spell1 {g : TK} (h : GoodT g) : token_Spell.f [g] = some (B (wl g), 0) := by
  have hz := h.size
  unfold token_Spell.f
  rw [if_pos ⟨by simp, fun t ht => by rw [List.mem_singleton] at ht; subst ht; omega⟩]
  have hc : spellOk canT [g] = true := by rw [spellOk, h.can, spellOk]; rfl
  rw [if_pos hc, spellW, if_neg h.ne5]
  have e : (if 0 < ([] : List UInt8).length then [] ++ [32] else []) ++ (if g.f0 = 3 then quoB g.f1 else g.f1).data.toList = wl g := by
    rw [if_neg (by simp)]
    rfl
  rw [e, if_neg (by omega), spellW]
  rfl
theorem same_at (a l : List TK) (h : a.map (fun t => (t.f0, t.f1)) = l.map (fun t => (t.f0, t.f1))) : a.length = l.length ∧ ∀ (i : Nat) (h : i < l.length) (h2 : i < a.length), a[i].f0 = l[i].f0 ∧ a[i].f1 = l[i].f1 := by
  refine ⟨by have := congrArg List.length h; simpa using this, fun i h1 h2 => ?_⟩
  have := congrArg (fun z => z[i]?) h
  simp only [List.getElem?_map, List.getElem?_eq_getElem h1, List.getElem?_eq_getElem h2, Option.map_some, Option.some.injEq, Prod.mk.injEq] at this
  exact this
theorem at_end (S : List UInt8) (l : List TK) (x0 : List TK) (x1 : List Int) (x2 : ByteArray) (hx2 : x2.size ≤ 140737488351232) (i : Int) (hB : Built S l) (hl : l.length ≤ 8) (hS : S.length ≤ 272 * l.length) :
    Ev (fun k => refrainlaw5_TokenFilled.j1 k x0 x1 x2 l (B S) i false) true := by
  obtain ⟨F, hF, hFl, hev⟩ := filler_ev 3 x2 hx2
  obtain ⟨ts, h1, h2⟩ := hB
  have hsc : scan (S ++ F) = (ts 0 ++ [⟨5, B [], ((S.length + F.length : Nat) : Int)⟩], 0, 0) := by
    unfold scan
    rw [if_neg (by simp; omega)]
    have := h2 (F ++ []) [] 0 _ (hF.ends []) (hF.skip [] _ _ _ (Sc.nil _ _))
    rw [List.append_nil] at this
    rw [this _ (by omega)]
    simp
  have hs := scan_ev (S ++ F)
  rw [hsc] at hs
  obtain ⟨h3, h4⟩ := same_at (ts 0) l (h1 0)
  refine Ev.step (f := fun k => (refrainlaw5_filler.f k 3 x2).bind fun t => (if (B S).size + t.size ≤ 9223372036854775807 then ((token_Scan.f k (B S ++ t)).bind fun bt => (if bt.2.2 = 0 then (if bt.2.1 = 0 then ((refrainlaw5_alike.f k l bt.1).bind fun t462 => (some t462)) else (some false)) else (some false))) else none)) (fun k => ?_) ?_
  · simp only [refrainlaw5_TokenFilled.j1]
    rw [if_neg (by simp)]
  refine Ev.bind (f := fun k t => _) hev ?_
  simp only [B_size, B_append]
  refine Ev.congr (f := fun k => (token_Scan.f k (B (S ++ F))).bind fun bt => (if bt.2.2 = 0 then (if bt.2.1 = 0 then ((refrainlaw5_alike.f k l bt.1).bind fun t462 => (some t462)) else (some false)) else (some false))) (fun k => ?_) ?_
  · rw [if_pos (by omega)]
  refine Ev.bind (f := fun k t => _) hs ?_
  simp only [if_pos]
  exact Ev.bind (f := fun k t => some t) (alike_ev l (ts 0) _ rfl rfl (by omega) h3 h4) (Ev.now _)
theorem cut_tok {g0 : TK} (hg0 : GoodT g0) : ∃ g : TK, GoodT g ∧ g.f1.size ≤ 60 ∧ ∀ (J : Int → ByteArray → Int → Option Bool), (if (g0.f1.size : Int) > 60 then (if 0 ≤ 60 then (if 60 ≤ (g0.f1.size : Int) then (J g0.f0 (g0.f1.extract 0 60) g0.f2) else (none)) else (none)) else (J g0.f0 g0.f1 g0.f2)) = J g.f0 g.f1 g.f2 := by
  by_cases h60 : g0.f1.size > 60
  · refine ⟨⟨g0.f0, g0.f1.extract 0 60, g0.f2⟩, good_cut hg0 h60, by show (g0.f1.extract 0 60).size ≤ 60; rw [ByteArray.size_extract]; omega, fun J => ?_⟩
    rw [if_pos (by omega), if_pos (by omega), if_pos (by omega)]
  · exact ⟨g0, hg0, by omega, fun J => by rw [if_neg (by omega)]⟩
theorem j2_ev (x0 : List TK) (x1 : List Int) (x2 : ByteArray) (hx2 : x2.size ≤ 140737488351232) (i : Nat) (l : List TK) (S : List UInt8) (g : TK) (hg : GoodT g) (hl : l.length ≤ 8) (hS : S.length ≤ 100000)
    (next : ∀ F, FillT F → F.length ≤ 30 → Ev (fun k => refrainlaw5_TokenFilled.l0 k x0 x1 x2 (l ++ [g]) (B (S ++ F ++ wl g)) (wrap64 ((i : Int) + 1))) true) :
    Ev (fun k => refrainlaw5_TokenFilled.j2 k x0 x1 x2 l (B S) (i : Int) g.f0 g.f1 g.f2) true := by
  have hz := hg.size
  have sp := spell1 hg
  have hl' : l.length < 4398046511104 := by omega
  have tail : ∀ F, FillT F → F.length ≤ 30 → Ev (fun k => (if (B S).size + (B F).size ≤ 9223372036854775807 then (if (B S ++ B F).size + (B (wl g)).size ≤ 9223372036854775807 then (refrainlaw5_TokenFilled.l0 k x0 x1 x2 (l ++ [g]) ((B S ++ B F) ++ B (wl g)) (wrap64 ((i : Int) + 1))) else (none)) else (none))) true := by
    intro F hF hFl
    have h1 : (B S).size + (B F).size ≤ 9223372036854775807 := by rw [B_size, B_size]; omega
    have h2 : (B (S ++ F)).size + (B (wl g)).size ≤ 9223372036854775807 := by rw [B_size, B_size, List.length_append]; omega
    refine Ev.congr (fun k => ?_) (next F hF hFl)
    rw [B_append, B_append, if_pos h1, if_pos h2]
  clear hz hg
  by_cases ci : (i : Int) < (x1.length : Int)
  · obtain ⟨F, hF, hFl, hfe⟩ := filler_ev (rd x1 (i : Int)) x2 hx2
    have hi0 : (0 : Int) ≤ (i : Int) := by omega
    have t1 := tail F hF hFl
    clear tail next
    refine Ev.step (f := fun k => (refrainlaw5_filler.f k (rd x1 (i : Int)) x2).bind fun t477 => (if (B S).size + t477.size ≤ 9223372036854775807 then (if (B S ++ t477).size + (B (wl g)).size ≤ 9223372036854775807 then (refrainlaw5_TokenFilled.l0 k x0 x1 x2 (l ++ [g]) ((B S ++ t477) ++ B (wl g)) (wrap64 ((i : Int) + 1))) else (none)) else (none))) (fun k => ?_) (Ev.bind (f := fun k t => _) hfe t1)
    rw [refrainlaw5_TokenFilled.j2, show ([(⟨g.f0, g.f1, g.f2⟩ : S44)] : List S44) = [g] from rfl, sp, Option.bind_some, if_pos rfl, if_pos hl', Option.bind_some, if_pos ci, if_pos hi0]
  · obtain ⟨F, hF, hFl, hfe⟩ := filler_ev 4 x2 hx2
    have t1 := tail F hF hFl
    clear tail next
    refine Ev.step (f := fun k => (refrainlaw5_filler.f k 4 x2).bind fun t477 => (if (B S).size + t477.size ≤ 9223372036854775807 then (if (B S ++ t477).size + (B (wl g)).size ≤ 9223372036854775807 then (refrainlaw5_TokenFilled.l0 k x0 x1 x2 (l ++ [g]) ((B S ++ t477) ++ B (wl g)) (wrap64 ((i : Int) + 1))) else (none)) else (none))) (fun k => ?_) (Ev.bind (f := fun k t => _) hfe t1)
    rw [refrainlaw5_TokenFilled.j2, show ([(⟨g.f0, g.f1, g.f2⟩ : S44)] : List S44) = [g] from rfl, sp, Option.bind_some, if_pos rfl, if_pos hl', Option.bind_some, if_neg ci]
theorem l0_end (x0 : List TK) (x1 : List Int) (x2 : ByteArray) (l : List TK) (S : List UInt8) (i : Nat) (h : 8 ≤ i ∨ x0.length ≤ i) (hj : Ev (fun k => refrainlaw5_TokenFilled.j1 k x0 x1 x2 l (B S) (i : Int) false) true) :
    Ev (fun k => refrainlaw5_TokenFilled.l0 k x0 x1 x2 l (B S) (i : Int)) true := by
  refine Ev.step (fun k => ?_) hj
  rw [refrainlaw5_TokenFilled.l0]
  by_cases c : (i : Int) < (x0.length : Int)
  · rw [if_pos c]
    congr 1
    exact decide_eq_false (by omega)
  · rw [if_neg c]
theorem l0_step (x0 : List TK) (x1 : List Int) (x2 : ByteArray) (l : List TK) (S : List UInt8) (i : Nat) (h8 : i < 8) (hi : i < x0.length) (g0 g : TK) (hev : Ev (fun k => refrainlaw5_plainest.f k (x0[i]).f0 (x0[i]).f1 (x0[i]).f2) (g0.f0, g0.f1, g0.f2))
    (hcut : ∀ (J : Int → ByteArray → Int → Option Bool), (if (g0.f1.size : Int) > 60 then (if 0 ≤ 60 then (if 60 ≤ (g0.f1.size : Int) then (J g0.f0 (g0.f1.extract 0 60) g0.f2) else (none)) else (none)) else (J g0.f0 g0.f1 g0.f2)) = J g.f0 g.f1 g.f2)
    (hj2 : Ev (fun k => refrainlaw5_TokenFilled.j2 k x0 x1 x2 l (B S) (i : Int) g.f0 g.f1 g.f2) true) : Ev (fun k => refrainlaw5_TokenFilled.l0 k x0 x1 x2 l (B S) (i : Int)) true := by
  refine Ev.step (f := fun k => refrainlaw5_TokenFilled.j1 k x0 x1 x2 l (B S) (i : Int) true) (fun k => ?_) ?_
  · rw [refrainlaw5_TokenFilled.l0, if_pos (show (i : Int) < (x0.length : Int) by omega)]
    congr 1
    exact decide_eq_true (by omega)
  refine Ev.step (f := fun k => (refrainlaw5_plainest.f k (x0[i]).f0 (x0[i]).f1 (x0[i]).f2).bind fun bt464 => (if (bt464.2.1.size : Int) > 60 then (if 0 ≤ 60 then (if 60 ≤ (bt464.2.1.size : Int) then (refrainlaw5_TokenFilled.j2 k x0 x1 x2 l (B S) (i : Int) bt464.1 (bt464.2.1.extract 0 60) bt464.2.2) else (none)) else (none)) else (refrainlaw5_TokenFilled.j2 k x0 x1 x2 l (B S) (i : Int) bt464.1 bt464.2.1 bt464.2.2))) (fun k => ?_) ?_
  · rw [refrainlaw5_TokenFilled.j1, if_pos rfl, if_pos (show (0 : Int) ≤ (i : Int) by omega), if_pos (show (i : Int) < (x0.length : Int) by omega), rdT x0 i hi]
  · refine Ev.bind (f := fun k bt => _) hev ?_
    exact Ev.congr (fun k => hcut (refrainlaw5_TokenFilled.j2 k x0 x1 x2 l (B S) (i : Int))) hj2
theorem len3 (a b c n : Nat) (h1 : a ≤ 272 * n) (h2 : b ≤ 30) (h3 : c ≤ 242) : a + b + c ≤ 272 * (n + 1) := by omega
theorem loop0 (x0 : List TK) (x1 : List Int) (x2 : ByteArray) (hx2 : x2.size ≤ 140737488351232) (hs : ∀ t ∈ x0, t.f1.size ≤ 140737488351232) :
    ∀ (m i : Nat) (l : List TK) (S : List UInt8), 8 - i = m → i ≤ 8 → l.length = i → Built S l → S.length ≤ 272 * i → Ev (fun k => refrainlaw5_TokenFilled.l0 k x0 x1 x2 l (B S) (i : Int)) true := by
  intro m
  induction m with
  | zero =>
    intro i l S hm hi hl hB hS
    exact l0_end x0 x1 x2 l S i (by omega) (at_end S l x0 x1 x2 hx2 _ hB (by omega) (by omega))
  | succ m ih =>
    intro i l S hm hi hl hB hS
    have a1 : l.length ≤ 8 := by omega
    have a2 : S.length ≤ 100000 := by omega
    have a3 : S.length ≤ 272 * l.length := by omega
    have h8 : i < 8 := by omega
    have w : wrap64 ((i : Int) + 1) = ((i + 1 : Nat) : Int) := by rw [w64 (by omega) (by omega)]; omega
    have m1 : 8 - (i + 1) = m := by omega
    have i1 : i + 1 ≤ 8 := by omega
    by_cases c : i < x0.length
    · obtain ⟨g0, hg0, hev⟩ := plainest_ev x0[i] (hs _ (List.getElem_mem c))
      obtain ⟨g, hg, hg60, hcut⟩ := cut_tok hg0
      have hz := hg.size.2.2.2 hg60
      refine l0_step x0 x1 x2 l S i h8 c g0 g hev hcut (j2_ev x0 x1 x2 hx2 i l S g hg a1 a2 fun F hF hFl => ?_)
      rw [w]
      have hSl : (S ++ F ++ wl g).length ≤ 272 * (i + 1) := by rw [List.length_append, List.length_append]; exact len3 _ _ _ _ hS hFl hz
      have hll : (l ++ [g]).length = i + 1 := by rw [List.length_append, hl]; rfl
      exact ih (i + 1) (l ++ [g]) (S ++ F ++ wl g) m1 i1 hll (hB.step hF hg) hSl
    · exact l0_end x0 x1 x2 l S i (Or.inr (Nat.le_of_not_lt c)) (at_end S l x0 x1 x2 hx2 _ hB a1 a3)
theorem pureG : PureG := by
  intro x0 x1 x2 g0 g1 g2
  refine Ev.rounds (?_ : Ev (fun k => refrainlaw5_TokenFilled.f k x0 x1 x2) true)
  unfold refrainlaw5_TokenFilled.f
  have n0 := g0.2.1
  have n1 := g1.2.1
  exact loop0 x0 x1 x2 g2 (fun t ht => (g0.2.2 t ht).2.1) 8 0 [] [] rfl (by omega) rfl Built.nil (by simp)
end Go.Proofs.YthmcapdakplhdaaDoor.tokenFilled

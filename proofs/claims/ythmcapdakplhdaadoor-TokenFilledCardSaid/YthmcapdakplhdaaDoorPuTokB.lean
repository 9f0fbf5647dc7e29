import Derived.Test.YthmcapdakplhdaaDoorExtTok3
import Derived.Test.YthmcapdakplhdaaDoorPrx14
import Derived.Test.YthmcapdakplhdaaDoorPrx17
namespace Go.Proofs.YthmcapdakplhdaaDoor.Pu
open Go.RowKit Go.Proofs.YthmcapdakplhdaaDoor.Pr Go.Proofs.YthmcapdakplhdaaDoorW.PrintWords Go.Proofs.YthmcapdakplhdaaDoorW.PrintLast Go.Proofs.YthmcapdakplhdaaDoorW.PrintMore
set_option linter.unusedVariables false
set_option linter.unusedSimpArgs false

/-- Plain facts on tokens that are spelled and scanned back. -/
abbrev TK := S44
def byN (n : Int) : UInt8 := UInt8.ofNat n.toNat
theorem byN_nat (n : Nat) (h : n < 256) : (byN (n : Int)).toNat = n := by
  show (UInt8.ofNat _).toNat = n
  rw [Int.toNat_natCast]
  simp
  omega
theorem hexL_ext (l rest : List UInt8) (h : (hexL l).2.2 = 0) : hexL (l ++ rest) = hexL l := by
  match l with
  | [] => simp [hexL] at h
  | [a] =>
    exfalso
    by_cases hh : hexN a.toNat < 0 <;> simp [hexL, hh] at h
  | a :: b :: t => simp only [List.cons_append, hexL]
theorem escL_ext (l rest : List UInt8) (h : (escL l).2.2 = 0) : escL (l ++ rest) = escL l := by
  match l with
  | [] => simp [escL] at h
  | c :: t =>
    simp only [List.cons_append, escL] at h ⊢
    repeat' split
    all_goals first | rfl | skip
    rename_i h1 h2 h3 h4
    rw [if_neg h1, if_neg h2, if_neg h3, if_pos h4] at h
    exact hexL_ext t rest h
/-- Whether a piece is read as its byte. -/
def goodP (p : List Int) (n : Nat) : Bool :=
  match p with
  | [] => false
  | a :: q => (p == [(n : Int)] && n != 34 && decide (32 ≤ n) && decide (n ≤ 126) && n != 92) || (a == 92 && decide (escL (q.map byN) = ((n : Int), (p.length : Int), 0)))
theorem pq_good : ∀ n : Nat, n < 256 → goodP (pq n) n = true := by decide +kernel
theorem unqL_piece (n : Nat) (hn : n < 256) (f : Nat) (rest : List UInt8) (acc : List Int) (pos frm : Nat) (ha : acc.length < 256) :
    unqL (f + 1) ((pq n).map byN ++ rest) acc pos frm = unqL f rest (acc ++ [(n : Int)]) (pos + (pq n).length) frm := by
  have hg := pq_good n hn
  generalize pq n = p at hg
  cases p with
  | nil => cases hg
  | cons a q =>
    simp only [goodP, Bool.or_eq_true, Bool.and_eq_true, beq_iff_eq, bne_iff_ne, decide_eq_true_eq] at hg
    rcases hg with ⟨⟨⟨⟨h1, h2⟩, h3⟩, h4⟩, h5⟩ | ⟨h1, h2⟩
    · simp only [List.cons.injEq] at h1
      obtain ⟨h1, h6⟩ := h1
      subst h1 h6
      have hb := byN_nat n hn
      show unqL (f + 1) (byN (n : Int) :: rest) acc pos frm = _
      rw [unqL, hb, if_neg h2, if_neg (by omega), if_neg h5, if_neg (by omega)]
      rfl
    · subst h1
      have he := escL_ext (q.map byN) rest (by rw [h2])
      rw [h2] at he
      show unqL (f + 1) (byN 92 :: (q.map byN ++ rest)) acc pos frm = _
      have hb : (byN 92).toNat = 92 := rfl
      rw [unqL, hb, if_neg (by decide), if_neg (by decide), if_pos rfl, he, if_pos rfl, if_neg (by omega)]
      rw [Int.toNat_natCast]
      congr 1
      have : (byN 92 :: (q.map byN ++ rest)) = ((92 :: q).map byN) ++ rest := rfl
      rw [this, List.drop_left' (by rw [List.length_map])]
theorem unqL_pqs : ∀ (t : List UInt8) (f : Nat) (rest : List UInt8) (acc : List Int) (pos frm : Nat), acc.length + t.length ≤ 256 →
    unqL (f + t.length) ((pqs t).map byN ++ rest) acc pos frm = unqL f rest (acc ++ t.map fun b => (b.toNat : Int)) (pos + (pqs t).length) frm := by
  intro t
  induction t with
  | nil => intro f rest acc pos frm _; simp [pqs]
  | cons c t ih =>
    intro f rest acc pos frm h
    simp only [List.length_cons] at h ⊢
    rw [show f + (t.length + 1) = (f + t.length) + 1 from rfl]
    simp only [pqs, List.map_append, List.append_assoc]
    rw [unqL_piece _ c.toNat_lt _ _ _ _ _ (by omega), ih _ _ _ _ _ (by simp; omega)]
    simp only [List.map_cons, List.append_assoc, List.length_append, List.singleton_append]
    rw [Nat.add_assoc]

/-- From a place on, behind the tokens that are there, a text is scanned so. -/
def Sc (rest : List UInt8) (out : List TK) (pos : Nat) (R : List TK × Int × Int) : Prop := ∀ f, rest.length < f → scanL f rest out pos = R
theorem Sc.nil (out : List TK) (pos : Nat) : Sc [] out pos (out ++ [⟨5, B [], pos⟩], 0, 0) := by
  intro f hf
  obtain ⟨g, rfl⟩ : ∃ g, f = g + 1 := ⟨f - 1, by simp at hf; omega⟩
  rfl
theorem take_ne (c : UInt8) (t : List UInt8) (h : c.toNat ≠ 45) : ((c :: t).take 2 == [45, 45]) = false := by
  rw [beq_eq_false_iff_ne]
  intro e
  cases t with
  | nil => simp at e
  | cons d t =>
    simp only [List.take_succ_cons, List.take_zero, List.cons.injEq] at e
    exact h (by rw [e.1]; rfl)
theorem beg45 : ∀ n : Nat, n < 256 → begN n = 1 ∨ begN n = 2 ∨ begN n = 3 ∨ begN n = 4 → n ≠ 45 := by decide +kernel
theorem Sc.blank {c : UInt8} {t : List UInt8} {out : List TK} {pos : Nat} {R : List TK × Int × Int} (hc : begL c = 1) (h : Sc t out (pos + 1) R) : Sc (c :: t) out pos R := by
  intro f hf
  obtain ⟨g, rfl⟩ : ∃ g, f = g + 1 := ⟨f - 1, by simp at hf; omega⟩
  rw [scanL, take_ne c t (beg45 _ c.toNat_lt (Or.inl hc)), if_neg (by simp), if_pos hc]
  exact h g (by simp at hf; omega)
theorem dropW (cs t : List UInt8) (h : ∀ c ∈ cs, c.toNat ≠ 10) : (cs ++ 10 :: t).dropWhile notLf = 10 :: t := by
  induction cs with
  | nil => rfl
  | cons c cs ih =>
    have hc : notLf c = true := by unfold notLf; simpa using h c (List.mem_cons_self ..)
    rw [List.cons_append, List.dropWhile_cons, hc, if_pos rfl, ih (fun d hd => h d (List.mem_cons_of_mem _ hd))]
theorem Sc.comment {cs t : List UInt8} {out : List TK} {pos : Nat} {R : List TK × Int × Int} (hcs : ∀ c ∈ cs, c.toNat ≠ 10) (h : Sc (10 :: t) out (pos + (cs.length + 2)) R) : Sc (45 :: 45 :: (cs ++ 10 :: t)) out pos R := by
  intro f hf
  obtain ⟨g, rfl⟩ : ∃ g, f = g + 1 := ⟨f - 1, by simp at hf; omega⟩
  have e : (45 :: 45 :: (cs ++ 10 :: t)).dropWhile notLf = 10 :: t := dropW (45 :: 45 :: cs) t (by
    intro c hc
    simp only [List.mem_cons] at hc
    rcases hc with rfl | rfl | hc
    · decide
    · decide
    · exact hcs c hc)
  rw [scanL, if_pos (by rfl), e]
  have e2 : (45 :: 45 :: (cs ++ 10 :: t) : List UInt8).length - (10 :: t : List UInt8).length = cs.length + 2 := by simp; omega
  rw [e2]
  exact h g (by simp at hf ⊢; omega)
/-- What stands behind a token: nothing, or a blank. -/
def EndsT (rest : List UInt8) : Prop := rest = [] ∨ ∃ c t, rest = c :: t ∧ begL c = 1
theorem goes_blankN : ∀ n : Nat, n < 256 → begN n = 1 → goesN n = false ∧ n ≠ 61 ∧ n ≠ 46 ∧ n ≠ 45 := by decide +kernel
theorem runL_ends (w rest : List UInt8) (hw : w.all goesB = true) (he : EndsT rest) : runL (w ++ rest) = w.length := by
  unfold runL
  induction w with
  | nil =>
    rcases he with rfl | ⟨c, t, rfl, hc⟩
    · rfl
    · rw [List.nil_append, List.takeWhile_cons, show goesB c = false from (goes_blankN _ c.toNat_lt hc).1]; rfl
  | cons a w ih =>
    simp only [List.all_cons, Bool.and_eq_true] at hw
    rw [List.cons_append, List.takeWhile_cons, hw.1, if_pos rfl, List.length_cons, ih hw.2, List.length_cons]
theorem Sc.word {c : UInt8} {w rest : List UInt8} {out : List TK} {pos : Nat} {R : List TK × Int × Int} (hb : begL c = 2) (hg : (c :: w).all goesB = true) (hl : (c :: w).length ≤ 32) (he : EndsT rest)
    (h : Sc rest (out ++ [⟨1, B (c :: w), pos⟩]) (pos + (c :: w).length) R) : Sc ((c :: w) ++ rest) out pos R := by
  intro f hf
  obtain ⟨g, rfl⟩ : ∃ g, f = g + 1 := ⟨f - 1, by simp at hf; omega⟩
  have hr := runL_ends (c :: w) rest hg he
  rw [List.cons_append] at hr
  rw [List.cons_append, scanL, take_ne c _ (beg45 _ c.toNat_lt (Or.inr (Or.inl hb))), if_neg (by simp), if_neg (by omega), if_pos hb, hr, if_neg (by omega)]
  rw [← List.cons_append, List.drop_left' rfl, List.take_left' rfl]
  exact h g (by simp at hf; omega)
theorem Sc.int {c : UInt8} {w rest : List UInt8} {out : List TK} {pos : Nat} {R : List TK × Int × Int} (hb : begL c = 3) (hg : (c :: w).all goesB = true) (hi : isIntB (c :: w) = true) (he : EndsT rest)
    (h : Sc rest (out ++ [⟨2, B (c :: w), pos⟩]) (pos + (c :: w).length) R) : Sc ((c :: w) ++ rest) out pos R := by
  intro f hf
  obtain ⟨g, rfl⟩ : ∃ g, f = g + 1 := ⟨f - 1, by simp at hf; omega⟩
  have hr := runL_ends (c :: w) rest hg he
  rw [List.cons_append] at hr
  rw [List.cons_append, scanL, take_ne c _ (beg45 _ c.toNat_lt (Or.inr (Or.inr (Or.inl hb)))), if_neg (by simp), if_neg (by omega), if_neg (by omega), if_pos hb, hr]
  rw [← List.cons_append, List.drop_left' rfl, List.take_left' rfl, if_pos hi]
  exact h g (by simp at hf; omega)
theorem Sc.str {s rest : List UInt8} {out : List TK} {pos : Nat} {R : List TK × Int × Int} (hs : s.length ≤ 256)
    (h : Sc rest (out ++ [⟨3, B s, pos⟩]) (pos + ((pqs s).length + 2)) R) : Sc (34 :: ((pqs s).map byN ++ 34 :: rest)) out pos R := by
  intro f hf
  obtain ⟨g, rfl⟩ : ∃ g, f = g + 1 := ⟨f - 1, by simp at hf; omega⟩
  have hl := pqs_len s
  have hm : ((pqs s).map byN ++ 34 :: rest).length = (pqs s).length + rest.length + 1 := by rw [List.length_append, List.length_map, List.length_cons]; omega
  have hu := unqL_pqs s ((pqs s).length + rest.length + 1 + 1 - s.length) (34 :: rest) [] (pos + 1) pos (by simp; omega)
  rw [show (pqs s).length + rest.length + 1 + 1 - s.length + s.length = ((pqs s).map byN ++ 34 :: rest).length + 1 by rw [hm]; omega] at hu
  have e : unqL (((pqs s).map byN ++ 34 :: rest).length + 1) ((pqs s).map byN ++ 34 :: rest) [] (pos + 1) pos = (B s, ((pos + 1 + (pqs s).length : Nat) : Int) + 1, 0) := by
    rw [hu]
    obtain ⟨q, hq⟩ : ∃ q, (pqs s).length + rest.length + 1 + 1 - s.length = q + 1 := ⟨(pqs s).length + rest.length + 1 - s.length, by omega⟩
    rw [hq, unqL, if_pos (by decide), List.nil_append, strOfNums_bytes]
  rw [scanL, take_ne 34 _ (by decide), if_neg (by simp), if_neg (by decide), if_neg (by decide), if_neg (by decide), if_pos (by decide), e, if_pos rfl]
  have e2 : (((pos + 1 + (pqs s).length : Nat) : Int) + 1).toNat = pos + ((pqs s).length + 2) := by omega
  simp only [e2]
  have e3 : (34 :: ((pqs s).map byN ++ 34 :: rest)).drop (pos + ((pqs s).length + 2) - pos) = rest := by
    rw [show pos + ((pqs s).length + 2) - pos = (34 :: ((pqs s).map byN ++ [34]) : List UInt8).length by (first | (simp; done) | (simp; omega)), show (34 :: ((pqs s).map byN ++ 34 :: rest)) = (34 :: ((pqs s).map byN ++ [34])) ++ rest by simp, List.drop_left' rfl]
  rw [e3]
  exact h g (by simp at hf; omega)
/-- The signs that are tried. -/
def signsL : List (List UInt8) := [[40], [41], [91], [93], [123], [125], [44], [46], [46, 46], [43], [45], [42], [61], [33, 61], [60], [60, 61], [62], [62, 61], [33]]
theorem sign_len {w : List UInt8} (hw : w ∈ signsL) : 1 ≤ w.length ∧ w.length ≤ 2 := by
  revert w
  decide
theorem sign_ends {w rest : List UInt8} (hw : w ∈ signsL) (he : EndsT rest) : signL (w ++ rest) = w.length ∧ ((w ++ rest).take 2 == [45, 45]) = false ∧ ∃ c t, w = c :: t ∧ begL c = 5 := by
  have h1 : ∀ c t, rest = c :: t → c ≠ 61 ∧ c ≠ 46 ∧ c ≠ 45 := by
    intro c t hr
    rcases he with rfl | ⟨d, u, rfl, hd⟩
    · cases hr
    · obtain ⟨rfl, rfl⟩ := List.cons.inj hr
      have := goes_blankN _ d.toNat_lt hd
      exact ⟨fun e => this.2.1 (by rw [e]; rfl), fun e => this.2.2.1 (by rw [e]; rfl), fun e => this.2.2.2 (by rw [e]; rfl)⟩
  cases rest with
  | nil =>
    rw [List.append_nil]
    revert w
    simp only [signsL, List.forall_mem_cons, List.not_mem_nil, false_implies, implies_true, and_true]
    refine ⟨?_, ?_, ?_, ?_, ?_, ?_, ?_, ?_, ?_, ?_, ?_, ?_, ?_, ?_, ?_, ?_, ?_, ?_, ?_⟩ <;> exact ⟨by decide, by decide, _, _, rfl, by decide⟩
  | cons d u =>
    obtain ⟨n1, n2, n3⟩ := h1 d u rfl
    revert w
    simp only [signsL, List.forall_mem_cons, List.not_mem_nil, false_implies, implies_true, and_true]
    refine ⟨?_, ?_, ?_, ?_, ?_, ?_, ?_, ?_, ?_, ?_, ?_, ?_, ?_, ?_, ?_, ?_, ?_, ?_, ?_⟩ <;> exact ⟨by simp [signL, n1, n2], by simp [n3], _, _, rfl, by decide⟩
theorem begN45 : begN 45 = 5 := by decide
theorem Sc.sign {w rest : List UInt8} {out : List TK} {pos : Nat} {R : List TK × Int × Int} (hw : w ∈ signsL) (he : EndsT rest)
    (h : Sc rest (out ++ [⟨4, B w, pos⟩]) (pos + w.length) R) : Sc (w ++ rest) out pos R := by
  intro f hf
  obtain ⟨g, rfl⟩ : ∃ g, f = g + 1 := ⟨f - 1, by omega⟩
  obtain ⟨hs, ht, c, t, rfl, hb⟩ := sign_ends hw he
  rw [List.cons_append] at hs ht ⊢
  rw [scanL, ht, if_neg (by simp), if_neg (by omega), if_neg (by omega), if_neg (by omega), if_neg (by omega), if_pos hb, hs]
  rw [← List.cons_append, List.drop_left' rfl, List.take_left' rfl]
  exact h g (by simp at hf; omega)

/-- A token of a kind that can be, as the statements make it. -/
def GoodT (g : TK) : Prop := g.f2 = 0 ∧
  ((g.f0 = 1 ∧ ∃ c t, g.f1 = B (c :: t) ∧ begL c = 2 ∧ (c :: t).all goesB = true ∧ (c :: t).length ≤ 32) ∨
   (g.f0 = 2 ∧ ∃ c t, g.f1 = B (c :: t) ∧ begL c = 3 ∧ (c :: t).all goesB = true ∧ (c :: t).length ≤ 3 ∧ isIntB (c :: t) = true) ∨
   (g.f0 = 3 ∧ g.f1.size ≤ 200) ∨
   (g.f0 = 4 ∧ ∃ w ∈ signsL, g.f1 = B w))
/-- How it is written. -/
def wl (g : TK) : List UInt8 := (if g.f0 = 3 then quoB g.f1 else g.f1).data.toList
theorem wl_str (g : TK) (h : g.f0 = 3) : wl g = 34 :: ((pqs g.f1.data.toList).map byN ++ [34]) := by
  unfold wl quoB
  rw [if_pos h, strOfNums_nat, B_data]
  simp [byN]
theorem GoodT.size {g : TK} (h : GoodT g) : g.f1.size ≤ 200 ∧ 1 ≤ (wl g).length ∧ (wl g).length ≤ 802 ∧ (g.f1.size ≤ 60 → (wl g).length ≤ 242) := by
  obtain ⟨h0, h | h | h | h⟩ := h
  · obtain ⟨hk, c, t, hc, _, _, hl⟩ := h
    have : wl g = c :: t := by unfold wl; rw [if_neg (by omega), hc, B_data]
    have h2 : g.f1.size = (c :: t).length := by rw [hc, B_size]
    rw [this]
    simp only [List.length_cons] at *
    omega
  · obtain ⟨hk, c, t, hc, _, _, hl, _⟩ := h
    have : wl g = c :: t := by unfold wl; rw [if_neg (by omega), hc, B_data]
    have h2 : g.f1.size = (c :: t).length := by rw [hc, B_size]
    rw [this]
    simp only [List.length_cons] at *
    omega
  · have hl := pqs_len g.f1.data.toList
    rw [data_len] at hl
    rw [wl_str g h.1]
    simp only [List.length_cons, List.length_append, List.length_map, List.length_nil]
    omega
  · obtain ⟨hk, w, hw, hc⟩ := h
    have : wl g = w := by unfold wl; rw [if_neg (by omega), hc, B_data]
    have h2 : g.f1.size = w.length := by rw [hc, B_size]
    have := sign_len hw
    rw [‹wl g = w›]
    omega
theorem GoodT.ne5 {g : TK} (h : GoodT g) : g.f0 ≠ 5 := by
  obtain ⟨h0, h | h | h | h⟩ := h <;> have := h.1 <;> omega
theorem GoodT.can {g : TK} (h : GoodT g) (last : Bool) : canT g last = true := by
  unfold canT canL
  obtain ⟨h0, h | h | h | h⟩ := h
  · obtain ⟨hk, c, t, hc, hb, hg, hl⟩ := h
    have hr := runL_ends (c :: t) [] hg (Or.inl rfl)
    rw [List.append_nil] at hr
    rw [if_pos hk, hc, B_data]
    simp only [hl, hb, hr, decide_true, Bool.and_self]
  · obtain ⟨hk, c, t, hc, hb, hg, hl, hi⟩ := h
    rw [if_neg (by omega), if_pos hk, hc, B_data, hi]
  · rw [if_neg (by omega), if_neg (by omega), if_pos h.1]
    have := h.2
    have h2 := data_len g.f1
    exact decide_eq_true (by omega)
  · obtain ⟨hk, w, hw, hc⟩ := h
    obtain ⟨hs, _, c, t, rfl, hb⟩ := sign_ends hw (Or.inl rfl)
    rw [List.append_nil] at hs
    rw [if_neg (by omega), if_neg (by omega), if_neg (by omega), if_pos hk, hc, B_data]
    exact decide_eq_true hs
theorem GoodT.scan {g : TK} (h : GoodT g) {rest : List UInt8} (he : EndsT rest) {out : List TK} {pos : Nat} {R : List TK × Int × Int} (hr : Sc rest (out ++ [⟨g.f0, g.f1, pos⟩]) (pos + (wl g).length) R) : Sc (wl g ++ rest) out pos R := by
  obtain ⟨h0, h | h | h | h⟩ := h
  · obtain ⟨hk, c, t, hc, hb, hg, hl⟩ := h
    have e : wl g = c :: t := by unfold wl; rw [if_neg (by omega), hc, B_data]
    rw [e] at hr ⊢
    rw [hk, hc] at hr
    exact Sc.word hb hg hl he hr
  · obtain ⟨hk, c, t, hc, hb, hg, hl, hi⟩ := h
    have e : wl g = c :: t := by unfold wl; rw [if_neg (by omega), hc, B_data]
    rw [e] at hr ⊢
    rw [hk, hc] at hr
    exact Sc.int hb hg hi he hr
  · have e := wl_str g h.1
    have hl := data_len g.f1
    rw [show (wl g).length = (pqs g.f1.data.toList).length + 2 by rw [e]; simp, h.1] at hr
    rw [e]
    have := Sc.str (s := g.f1.data.toList) (rest := rest) (out := out) (pos := pos) (R := R) (by have := h.2; omega) (by rw [B_of]; exact hr)
    simpa using this
  · obtain ⟨hk, w, hw, hc⟩ := h
    have e : wl g = w := by unfold wl; rw [if_neg (by omega), hc, B_data]
    rw [e] at hr ⊢
    rw [hk, hc] at hr
    exact Sc.sign hw he hr
set_option maxRecDepth 100000

/-- The tokens that the statements make of any bytes are good ones. -/
def plL (k : Nat) (b : List Int) (s i kd : Int) (tx : ByteArray) (p : Int) : Option (Int × ByteArray × Int) := refrainlaw5_plainest.l0 k b s i kd tx p (⟨#[40]⟩ : ByteArray) (⟨#[41]⟩ : ByteArray) (⟨#[91]⟩ : ByteArray) (⟨#[93]⟩ : ByteArray) (⟨#[123]⟩ : ByteArray) (⟨#[125]⟩ : ByteArray) (⟨#[44]⟩ : ByteArray) (⟨#[46]⟩ : ByteArray) (⟨#[46, 46]⟩ : ByteArray) (⟨#[43]⟩ : ByteArray) (⟨#[45]⟩ : ByteArray) (⟨#[42]⟩ : ByteArray) (⟨#[61]⟩ : ByteArray) (⟨#[33, 61]⟩ : ByteArray) (⟨#[60]⟩ : ByteArray) (⟨#[60, 61]⟩ : ByteArray) (⟨#[62]⟩ : ByteArray) (⟨#[62, 61]⟩ : ByteArray) (⟨#[33]⟩ : ByteArray)
def plJ (k : Nat) (b : List Int) (s kk kd : Int) (tx : ByteArray) (p : Int) : Option (Int × ByteArray × Int) := refrainlaw5_plainest.j1 k b s kk kd tx p (⟨#[40]⟩ : ByteArray) (⟨#[41]⟩ : ByteArray) (⟨#[91]⟩ : ByteArray) (⟨#[93]⟩ : ByteArray) (⟨#[123]⟩ : ByteArray) (⟨#[125]⟩ : ByteArray) (⟨#[44]⟩ : ByteArray) (⟨#[46]⟩ : ByteArray) (⟨#[46, 46]⟩ : ByteArray) (⟨#[43]⟩ : ByteArray) (⟨#[45]⟩ : ByteArray) (⟨#[42]⟩ : ByteArray) (⟨#[61]⟩ : ByteArray) (⟨#[33, 61]⟩ : ByteArray) (⟨#[60]⟩ : ByteArray) (⟨#[60, 61]⟩ : ByteArray) (⟨#[62]⟩ : ByteArray) (⟨#[62, 61]⟩ : ByteArray) (⟨#[33]⟩ : ByteArray)
theorem pl_f (k : Nat) (kd : Int) (tx : ByteArray) (p : Int) : refrainlaw5_plainest.f k kd tx p = plL k [] 0 0 kd tx p := rfl
/-- Bytes that may stand in a word, a letter ahead. -/
def OKb (b : List Int) : Prop := ∃ l : List UInt8, b = l.map (fun c => (c.toNat : Int)) ∧ l.all goesB = true ∧ (∀ c t, l = c :: t → begL c = 2)
theorem letterN : ∀ n : Nat, n < 256 → ((97 ≤ n ∧ n ≤ 122) ∨ (65 ≤ n ∧ n ≤ 90) ∨ n = 95) → begN n = 2 ∧ goesN n = true := by decide +kernel
theorem digitN : ∀ n : Nat, n < 256 → (48 ≤ n ∧ n ≤ 57) → goesN n = true := by decide +kernel
theorem OKb.nil : OKb [] := ⟨[], rfl, rfl, fun c t h => by cases h⟩
theorem OKb.letter {b : List Int} (h : OKb b) (c : UInt8) (hc : (97 ≤ c.toNat ∧ c.toNat ≤ 122) ∨ (65 ≤ c.toNat ∧ c.toNat ≤ 90) ∨ c.toNat = 95) : OKb (b ++ [(c.toNat : Int)]) := by
  obtain ⟨l, rfl, hg, hb⟩ := h
  obtain ⟨h1, h2⟩ := letterN _ c.toNat_lt hc
  refine ⟨l ++ [c], by simp, ?_, ?_⟩
  · rw [List.all_append, hg]
    simpa [goesB] using h2
  · intro d t e
    cases l with
    | nil => obtain ⟨rfl, _⟩ := List.cons.inj e; exact h1
    | cons a r => obtain ⟨rfl, _⟩ := List.cons.inj e; exact hb a r rfl
theorem OKb.digit {b : List Int} (h : OKb b) (hne : (b.length : Int) > 0) (c : UInt8) (hc : 48 ≤ c.toNat ∧ c.toNat ≤ 57) : OKb (b ++ [(c.toNat : Int)]) := by
  obtain ⟨l, rfl, hg, hb⟩ := h
  have h2 := digitN _ c.toNat_lt hc
  refine ⟨l ++ [c], by simp, ?_, ?_⟩
  · rw [List.all_append, hg]
    simpa [goesB] using h2
  · intro d t e
    cases l with
    | nil => simp at hne
    | cons a r => obtain ⟨rfl, _⟩ := List.cons.inj e; exact hb a r rfl
theorem pl_step (pre t : List UInt8) (c : UInt8) (b : List Int) (s kd p : Int) (hb : OKb b) (hl : b.length ≤ pre.length) (hs0 : 0 ≤ s) (hs : s ≤ 255 * (pre.length : Int)) (hn : (pre ++ c :: t).length ≤ 140737488351232) :
    ∃ b', OKb b' ∧ b'.length ≤ pre.length + 1 ∧ ∀ k, plL (k + 1) b s (pre.length : Int) kd (B (pre ++ c :: t)) p = plL k b' (s + (c.toNat : Int)) ((pre.length : Int) + 1) kd (B (pre ++ c :: t)) p := by
  have hc := c.toNat_lt
  have hpl : pre.length < 140737488351232 := by simp at hn; omega
  have e0 : bt (B (pre ++ c :: t)) (pre.length : Int) = (c.toNat : Int) := bt_mid pre c t
  have w1 : wrap64 (c.toNat : Int) = (c.toNat : Int) := w64 (by omega) (by omega)
  have w2 : wrap64 (s + (c.toNat : Int)) = s + (c.toNat : Int) := w64 (by omega) (by omega)
  have w3 : wrap64 ((pre.length : Int) + 1) = (pre.length : Int) + 1 := w64 (by omega) (by omega)
  have hb' : b.length < 140737488355328 := by omega
  have hi : (pre.length : Int) < ((B (pre ++ c :: t)).size : Int) := by rw [B_size]; simp; omega
  have hp0 : (0 : Int) ≤ (pre.length : Int) := by omega
  have hlen : (b ++ [(c.toNat : Int)]).length ≤ pre.length + 1 := by simp; omega
  by_cases a1 : 97 ≤ c.toNat ∧ c.toNat ≤ 122
  · exact ⟨_, hb.letter c (Or.inl a1), hlen, fun k => by simp only [plL, refrainlaw5_plainest.l0]; rw [if_pos hi, if_pos hp0, e0, if_pos (by omega), if_pos (by omega), if_pos hb', w1, w2, w3]⟩
  by_cases a2 : 65 ≤ c.toNat ∧ c.toNat ≤ 90
  · exact ⟨_, hb.letter c (Or.inr (Or.inl a2)), hlen, fun k => by simp only [plL, refrainlaw5_plainest.l0]; rw [if_pos hi, if_pos hp0, e0, if_neg (by omega), if_pos (by omega), if_pos (by omega), if_pos hb', w1, w2, w3]⟩
  by_cases a3 : c.toNat = 95
  · exact ⟨_, hb.letter c (Or.inr (Or.inr a3)), hlen, fun k => by simp only [plL, refrainlaw5_plainest.l0]; rw [if_pos hi, if_pos hp0, e0, if_neg (by omega), if_pos (by omega), if_neg (by omega), if_pos (by omega), if_pos hb', w1, w2, w3]⟩
  by_cases a4 : (48 ≤ c.toNat ∧ c.toNat ≤ 57) ∧ (b.length : Int) > 0
  · refine ⟨_, hb.digit a4.2 c a4.1, hlen, fun k => ?_⟩
    simp only [plL, refrainlaw5_plainest.l0]
    rw [if_pos hi, if_pos hp0, e0, if_neg (by omega), if_neg (by omega), if_neg (by omega), if_pos (by omega), if_pos (by omega), if_pos a4.2, if_pos hb', w1, w2, w3]
  refine ⟨b, hb, by omega, fun k => ?_⟩
  simp only [plL, refrainlaw5_plainest.l0]
  rw [if_pos hi, if_pos hp0, e0, w1, w2, w3]
  have r1 : 123 ≤ c.toNat ∨ (91 ≤ c.toNat ∧ c.toNat ≤ 96) ∨ (58 ≤ c.toNat ∧ c.toNat ≤ 64) ∨ (48 ≤ c.toNat ∧ c.toNat ≤ 57) ∨ c.toNat ≤ 47 := by omega
  rcases r1 with r | r | r | r | r
  · rw [if_pos (by omega), if_neg (by omega), if_pos (by omega), if_neg (by omega), if_neg (by omega), if_pos (by omega), if_neg (by omega)]
  · rw [if_neg (by omega), if_pos (by omega), if_neg (by omega), if_neg (by omega), if_pos (by omega), if_neg (by omega)]
  · rw [if_neg (by omega), if_neg (by omega), if_neg (by omega), if_pos (by omega), if_neg (by omega)]
  · rw [if_neg (by omega), if_neg (by omega), if_neg (by omega), if_pos (by omega), if_pos (by omega), if_neg (by omega)]
  · rw [if_neg (by omega), if_neg (by omega), if_neg (by omega), if_neg (by omega)]
theorem int3 : ∀ a : Nat, a < 9 → ∀ b : Nat, b < 10 → ∀ c : Nat, c < 10 → isIntB [UInt8.ofNat (49 + a)] = true ∧ isIntB [UInt8.ofNat (49 + a), UInt8.ofNat (48 + b)] = true ∧ isIntB [UInt8.ofNat (49 + a), UInt8.ofNat (48 + b), UInt8.ofNat (48 + c)] = true := by decide +kernel
theorem dig9 : ∀ a : Nat, a < 9 → begN (UInt8.ofNat (49 + a)).toNat = 3 ∧ goesN (UInt8.ofNat (49 + a)).toNat = true := by decide +kernel
theorem dig10 : ∀ a : Nat, a < 10 → goesN (UInt8.ofNat (48 + a)).toNat = true := by decide +kernel
theorem good_int (a b c m : Nat) (ha : a < 9) (hb : b < 10) (hc : c < 10) (hm : 1 ≤ m) (hm3 : m ≤ 3) : GoodT ⟨2, B (([UInt8.ofNat (49 + a), UInt8.ofNat (48 + b), UInt8.ofNat (48 + c)] : List UInt8).take m), 0⟩ := by
  obtain ⟨i1, i2, i3⟩ := int3 a ha b hb c hc
  obtain ⟨b1, g1⟩ := dig9 a ha
  have g2 := dig10 b hb
  have g3 := dig10 c hc
  have hm' : m = 1 ∨ m = 2 ∨ m = 3 := by omega
  refine ⟨rfl, Or.inr (Or.inl ⟨rfl, ?_⟩)⟩
  rcases hm' with rfl | rfl | rfl
  · exact ⟨_, _, rfl, b1, by simp only [List.take_succ_cons, List.take_zero, List.all_cons, List.all_nil, Bool.and_true, Bool.and_eq_true]; exact g1, by simp, i1⟩
  · exact ⟨_, _, rfl, b1, by simp only [List.take_succ_cons, List.take_zero, List.all_cons, List.all_nil, Bool.and_true, Bool.and_eq_true]; exact ⟨g1, g2⟩, by simp, i2⟩
  · exact ⟨_, _, rfl, b1, by simp only [List.take_succ_cons, List.take_zero, List.all_cons, List.all_nil, Bool.and_true, Bool.and_eq_true]; exact ⟨g1, g2, g3⟩, by simp, i3⟩
theorem good_sign (n : Nat) (hn : n < 19) : GoodT ⟨4, ([(⟨#[40]⟩ : ByteArray), (⟨#[41]⟩ : ByteArray), (⟨#[91]⟩ : ByteArray), (⟨#[93]⟩ : ByteArray), (⟨#[123]⟩ : ByteArray), (⟨#[125]⟩ : ByteArray), (⟨#[44]⟩ : ByteArray), (⟨#[46]⟩ : ByteArray), (⟨#[46, 46]⟩ : ByteArray), (⟨#[43]⟩ : ByteArray), (⟨#[45]⟩ : ByteArray), (⟨#[42]⟩ : ByteArray), (⟨#[61]⟩ : ByteArray), (⟨#[33, 61]⟩ : ByteArray), (⟨#[60]⟩ : ByteArray), (⟨#[60, 61]⟩ : ByteArray), (⟨#[62]⟩ : ByteArray), (⟨#[62, 61]⟩ : ByteArray), (⟨#[33]⟩ : ByteArray)] : List ByteArray).getD n (⟨#[]⟩ : ByteArray), 0⟩ := by
  refine ⟨rfl, Or.inr (Or.inr (Or.inr ⟨rfl, signsL.getD n [], ?_, ?_⟩))⟩
  · have h : n < signsL.length := hn
    rw [List.getD_eq_getElem?_getD, List.getElem?_eq_getElem h]
    exact List.getElem_mem h
  · match n, hn with
    | 0, _ => rfl
    | 1, _ => rfl
    | 2, _ => rfl
    | 3, _ => rfl
    | 4, _ => rfl
    | 5, _ => rfl
    | 6, _ => rfl
    | 7, _ => rfl
    | 8, _ => rfl
    | 9, _ => rfl
    | 10, _ => rfl
    | 11, _ => rfl
    | 12, _ => rfl
    | 13, _ => rfl
    | 14, _ => rfl
    | 15, _ => rfl
    | 16, _ => rfl
    | 17, _ => rfl
    | 18, _ => rfl
    | n + 19, h => exact absurd h (by omega)
theorem good_word (b : List Int) (hb : OKb b) (hl : b.length ≤ 32) (hne : ¬ (b.length : Int) = 0) : GoodT ⟨1, strOfNums b, 0⟩ := by
  obtain ⟨l, rfl, hg, hb2⟩ := hb
  cases l with
  | nil => simp at hne
  | cons c t => exact ⟨rfl, Or.inl ⟨rfl, c, t, strOfNums_bytes _, hb2 c t rfl, hg, by simpa using hl⟩⟩
theorem OKb.take {b : List Int} (h : OKb b) (n : Nat) : OKb (b.take n) := by
  obtain ⟨l, rfl, hg, hb⟩ := h
  refine ⟨l.take n, by simp, ?_, ?_⟩
  · rw [List.all_eq_true] at hg ⊢
    exact fun x hx => hg x (List.mem_of_mem_take hx)
  · intro c t e
    cases l with
    | nil => simp at e
    | cons a r =>
      cases n with
      | zero => simp at e
      | succ n => rw [List.take_succ_cons] at e; obtain ⟨rfl, _⟩ := List.cons.inj e; exact hb a r rfl
theorem pl_end (b : List Int) (s kk kd p : Int) (l : List UInt8) (hb : OKb b) (hs0 : 0 ≤ s) (hs : s ≤ 255 * (l.length : Int)) (hn : l.length ≤ 140737488351232) (hk0 : 0 ≤ kk) (hk : kk ≤ 3) :
    ∃ g : TK, GoodT g ∧ ∀ k, plJ (k + 1) b s kk kd (B l) p = some (g.f0, g.f1, g.f2) := by
  by_cases k0 : kk = 0
  · by_cases h32 : (b.length : Int) > 32
    · have hl32 : (b.take 32).length = 32 := by rw [List.length_take]; omega
      refine ⟨⟨1, strOfNums (b.take 32), 0⟩, good_word _ (hb.take 32) (by omega) (by omega), fun k => ?_⟩
      simp only [plJ, refrainlaw5_plainest.j1]
      rw [if_pos k0, if_pos h32, if_pos (by omega), Option.bind_some, if_neg (show ¬ (((b.take (32 : Int).toNat).length : Nat) : Int) = 0 from by have : ((32 : Int).toNat) = 32 := rfl; rw [this]; omega)]
      rfl
    · by_cases hz : (b.length : Int) = 0
      · refine ⟨⟨1, strOfNums [120], 0⟩, good_word [120] ⟨[120], rfl, by decide, fun c t e => by obtain ⟨rfl, _⟩ := List.cons.inj e; decide⟩ (by simp) (by simp), fun k => ?_⟩
        simp only [plJ, refrainlaw5_plainest.j1]
        rw [if_pos k0, if_neg h32, if_pos hz]
      · refine ⟨⟨1, strOfNums b, 0⟩, good_word b hb (by omega) hz, fun k => ?_⟩
        simp only [plJ, refrainlaw5_plainest.j1]
        rw [if_pos k0, if_neg h32, if_neg hz]
  by_cases k1 : kk = 1
  · have m9 : Int.tmod s 9 = s % 9 := Int.tmod_eq_emod_of_nonneg hs0
    have m10 : Int.tmod s 10 = s % 10 := Int.tmod_eq_emod_of_nonneg hs0
    have m3 : Int.tmod s 3 = s % 3 := Int.tmod_eq_emod_of_nonneg hs0
    have v1 : (wrap64 (49 + s % 9)) % 256 = ((49 + (s % 9).toNat : Nat) : Int) := by rw [w64 (by omega) (by omega)]; omega
    have v2 : (wrap64 (48 + s % 10)) % 256 = ((48 + (s % 10).toNat : Nat) : Int) := by rw [w64 (by omega) (by omega)]; omega
    have v3 : 48 + ((B l).size : Int) % 10 = ((48 + l.length % 10 : Nat) : Int) := by rw [B_size]; omega
    have v4 : wrap64 (1 + s % 3) = ((1 + (s % 3).toNat : Nat) : Int) := by rw [w64 (by omega) (by omega)]; omega
    have hy : strOfNums ([((49 + (s % 9).toNat : Nat) : Int), ((48 + (s % 10).toNat : Nat) : Int), ((48 + l.length % 10 : Nat) : Int)] : List Int) = B [UInt8.ofNat (49 + (s % 9).toNat), UInt8.ofNat (48 + (s % 10).toNat), UInt8.ofNat (48 + l.length % 10)] := by
      rw [strOfNums_nat]; rfl
    refine ⟨⟨2, B (([UInt8.ofNat (49 + (s % 9).toNat), UInt8.ofNat (48 + (s % 10).toNat), UInt8.ofNat (48 + l.length % 10)] : List UInt8).take (1 + (s % 3).toNat)), 0⟩, good_int _ _ _ _ (by omega) (by omega) (by omega) (by omega) (by omega), fun k => ?_⟩
    simp only [plJ, refrainlaw5_plainest.j1]
    rw [if_neg k0, if_pos k1, m9, m10, m3, v1, v2, v3, v4, Option.bind_some, hy, if_pos (by omega), if_pos (by rw [B_size]; simp; omega), B_extract, Int.toNat_natCast, List.drop_zero]
  by_cases k2 : kk = 2
  · by_cases h200 : ((B l).size : Int) > 200
    · refine ⟨⟨3, (B l).extract 0 200, 0⟩, ⟨rfl, Or.inr (Or.inr (Or.inl ⟨rfl, by rw [B_extract, B_size]; simp; omega⟩))⟩, fun k => ?_⟩
      simp only [plJ, refrainlaw5_plainest.j1]
      rw [if_neg k0, if_neg k1, if_pos k2, if_pos h200, if_pos (by omega), if_pos (by omega)]
    · refine ⟨⟨3, B l, 0⟩, ⟨rfl, Or.inr (Or.inr (Or.inl ⟨rfl, show (B l).size ≤ 200 by omega⟩))⟩, fun k => ?_⟩
      simp only [plJ, refrainlaw5_plainest.j1]
      rw [if_neg k0, if_neg k1, if_pos k2, if_neg h200]
  · have m19 : Int.tmod s 19 = s % 19 := Int.tmod_eq_emod_of_nonneg hs0
    refine ⟨_, good_sign (s % 19).toNat (by omega), fun k => ?_⟩
    simp only [plJ, refrainlaw5_plainest.j1]
    rw [if_neg k0, if_neg k1, if_neg k2, m19, if_pos (by omega), if_pos (by omega)]
    rfl
theorem pl_run (kd p : Int) (l : List UInt8) (hn : l.length ≤ 140737488351232) : ∀ (rest pre : List UInt8) (b : List Int) (s : Int), pre ++ rest = l → OKb b → b.length ≤ pre.length → 0 ≤ s → s ≤ 255 * (pre.length : Int) →
    ∃ g : TK, GoodT g ∧ Ev (fun k => plL k b s (pre.length : Int) kd (B l) p) (g.f0, g.f1, g.f2) := by
  intro rest
  induction rest with
  | nil =>
    intro pre b s hp hb hl hs0 hs
    rw [List.append_nil] at hp
    subst hp
    have hm : -3 ≤ Int.tmod kd 4 ∧ Int.tmod kd 4 ≤ 3 := by
      have h1 := Int.tmod_lt_of_pos kd (show (0 : Int) < 4 by decide)
      have h2 := Int.lt_tmod_of_pos kd (show (0 : Int) < 4 by decide)
      omega
    have step : ∀ k, plL (k + 1) b s (pre.length : Int) kd (B pre) p = plJ k b s (if Int.tmod kd 4 < 0 then wrap64 (Int.tmod kd 4 + 4) else Int.tmod kd 4) kd (B pre) p := by
      intro k
      simp only [plL, plJ, refrainlaw5_plainest.l0]
      rw [if_neg (by rw [B_size]; omega)]
      split <;> rfl
    have hw : Int.tmod kd 4 < 0 → wrap64 (Int.tmod kd 4 + 4) = Int.tmod kd 4 + 4 := fun h => w64 (by omega) (by omega)
    obtain ⟨g, hg, h⟩ := pl_end b s (if Int.tmod kd 4 < 0 then wrap64 (Int.tmod kd 4 + 4) else Int.tmod kd 4) kd p pre hb hs0 hs hn (by split; (· rename_i h; rw [hw h]; omega); (· omega)) (by split; (· rename_i h; rw [hw h]; omega); (· omega))
    exact ⟨g, hg, Ev.step step (Ev.step (f := fun _ => some _) (fun k => h k) (Ev.now _))⟩
  | cons c t ih =>
    intro pre b s hp hb hl hs0 hs
    have hc := c.toNat_lt
    obtain ⟨b', hb', hl', h⟩ := pl_step pre t c b s kd p hb hl hs0 hs (by rw [hp]; exact hn)
    rw [hp] at h
    obtain ⟨g, hg, hev⟩ := ih (pre ++ [c]) b' (s + (c.toNat : Int)) (by rw [← hp]; simp) hb' (by simp; omega) (by omega) (by simp; omega)
    refine ⟨g, hg, Ev.step h ?_⟩
    rw [show (((pre ++ [c]).length : Nat) : Int) = (pre.length : Int) + 1 by simp] at hev
    exact hev
theorem plainest_ev (t : TK) (ht : t.f1.size ≤ 140737488351232) : ∃ g : TK, GoodT g ∧ Ev (fun k => refrainlaw5_plainest.f k t.f0 t.f1 t.f2) (g.f0, g.f1, g.f2) := by
  obtain ⟨g, hg, h⟩ := pl_run t.f0 t.f2 t.f1.data.toList (by rw [data_len]; exact ht) t.f1.data.toList [] [] 0 rfl OKb.nil (by simp) (by omega) (by simp)
  rw [B_of] at h
  exact ⟨g, hg, h⟩
theorem rdT (l : List TK) (i : Nat) (h : i < l.length) : rd_T44 l (i : Int) = l[i] := by
  unfold rd_T44
  simp [h]
theorem alike_ev (l a : List TK) (e : TK) (he : e.f0 = 5) (he1 : e.f1 = B []) (hl : l.length ≤ 1000000) (hal : a.length = l.length) (h3 : ∀ (i : Nat) (h : i < l.length) (h2 : i < a.length), a[i].f0 = l[i].f0 ∧ a[i].f1 = l[i].f1) :
    Ev (fun k => refrainlaw5_alike.f k l (a ++ [e])) true := by
  have hlen : (a ++ [e]).length = l.length + 1 := by simp [hal]
  have hloop : ∀ (m i : Nat), l.length - i = m → i ≤ l.length → Ev (fun k => refrainlaw5_alike.l0 k l (a ++ [e]) (i : Int)) true := by
    intro m
    induction m with
    | zero =>
      intro i hm hi
      refine Ev.step (f := fun _ => some true) (fun k => ?_) (Ev.now _)
      simp only [refrainlaw5_alike.l0]
      rw [if_neg (by omega)]
    | succ m ih =>
      intro i hm hi
      have hlt : i < l.length := by omega
      refine Ev.step (f := fun k => refrainlaw5_alike.l0 k l (a ++ [e]) ((i + 1 : Nat) : Int)) (fun k => ?_) (ih (i + 1) (by omega) (by omega))
      simp only [refrainlaw5_alike.l0]
      have e1 : rd_T44 (a ++ [e]) (i : Int) = a[i]'(by omega) := by rw [rdT _ i (by omega), List.getElem_append_left (by omega)]
      have h4 := h3 i hlt (by omega)
      rw [if_pos (by omega), if_pos (by omega), if_pos (by omega), e1, rdT l i hlt, if_pos h4.1.symm, if_pos (by rw [h4.2]), w64 (by omega) (by omega)]
      rfl
  unfold refrainlaw5_alike.f
  have w : wrap64 ((l.length : Int) + 1) = (l.length : Int) + 1 := w64 (by omega) (by omega)
  have e2 : rd_T44 (a ++ [e]) (l.length : Int) = e := by
    rw [rdT _ l.length (by omega), List.getElem_append_right (by omega)]
    simp [hal]
  refine Ev.congr (f := fun k => refrainlaw5_alike.j0 k l (a ++ [e]) false) (fun k => ?_) ?_
  · rw [if_pos (by rw [hlen, w]; omega), if_pos (by omega), if_pos (by rw [hlen]; omega), e2, if_pos he, he1]
    congr 1
    simp
  · refine Ev.step (f := fun k => refrainlaw5_alike.l0 k l (a ++ [e]) 0) (fun k => ?_) (hloop _ 0 rfl (by omega))
    simp only [refrainlaw5_alike.j0]
    rw [if_neg (by simp)]
end Go.Proofs.YthmcapdakplhdaaDoor.Pu

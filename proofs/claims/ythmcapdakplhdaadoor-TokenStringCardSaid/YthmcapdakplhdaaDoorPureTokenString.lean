import Derived.Test.YthmcapdakplhdaaDoorPuTok4
import Derived.Test.YthmcapdakplhdaaDoorPrx14
namespace Go.Proofs.YthmcapdakplhdaaDoor.PureS
open Go.RowKit Go.Proofs.YthmcapdakplhdaaDoor.Pr Go.Proofs.YthmcapdakplhdaaDoor.Pu Go.Proofs.YthmcapdakplhdaaDoorW.PrintWords Go.Proofs.YthmcapdakplhdaaDoorW.PrintLast Go.Proofs.YthmcapdakplhdaaDoorW.PrintMore
set_option linter.unusedVariables false
set_option linter.unusedSimpArgs false

/-- The two rows of hexadecimal digits. -/
def lowD : ByteArray := ⟨#[48, 49, 50, 51, 52, 53, 54, 55, 56, 57, 97, 98, 99, 100, 101, 102]⟩
def upD : ByteArray := ⟨#[48, 49, 50, 51, 52, 53, 54, 55, 56, 57, 65, 66, 67, 68, 69, 70]⟩
/-- How the law writes one byte. -/
def pc (k n : Int) : List Int :=
  if k = 1 then [92, 120, bt lowD ((Int.tdiv n 16) % 256), bt upD (Int.tmod n 16)]
  else if k = 2 ∧ n = 10 then [92, 110]
  else if k = 2 ∧ n = 9 then [92, 116]
  else if n = 34 ∨ n = 92 then [92, n]
  else if n < 32 ∨ 126 < n then [92, 120, bt upD ((Int.tdiv n 16) % 256), bt lowD (Int.tmod n 16)]
  else [n]
/-- A number as a byte. -/
def by_ (n : Int) : UInt8 := UInt8.ofNat n.toNat
/-- Whether a piece is read as its byte. -/
def good (p : List Int) (n : Nat) : Bool :=
  match p with
  | [] => false
  | a :: q => (p == [(n : Int)] && n != 34 && decide (32 ≤ n) && decide (n ≤ 126) && n != 92) || (a == 92 && decide (escL (q.map by_) = ((n : Int), (p.length : Int), 0)))
theorem good_all : ∀ n : Nat, n < 256 → good (pc 0 n) n = true ∧ good (pc 1 n) n = true ∧ good (pc 2 n) n = true := by decide +kernel
theorem len_all : ∀ n : Nat, n < 256 → ((pc 0 n).length ≤ 4 ∧ 1 ≤ (pc 0 n).length) ∧ ((pc 1 n).length ≤ 4 ∧ 1 ≤ (pc 1 n).length) ∧ ((pc 2 n).length ≤ 4 ∧ 1 ≤ (pc 2 n).length) := by decide +kernel
theorem pc_kind (k n : Int) : pc k n = pc 0 n ∨ pc k n = pc 1 n ∨ pc k n = pc 2 n := by
  by_cases h1 : k = 1
  · exact .inr (.inl (by rw [h1]))
  · by_cases h2 : k = 2
    · exact .inr (.inr (by rw [h2]))
    · refine .inl ?_
      simp only [pc, h1, h2, false_and, if_false, show ¬ ((0 : Int) = 1) by decide, show ¬ ((0 : Int) = 2) by decide]
theorem pc_good (k : Int) (n : Nat) (hn : n < 256) : good (pc k n) n = true := by
  obtain ⟨a, b, c⟩ := good_all n hn
  rcases pc_kind k n with h | h | h <;> rw [h] <;> assumption
theorem pc_len (k : Int) (n : Nat) (hn : n < 256) : (pc k n).length ≤ 4 ∧ 1 ≤ (pc k n).length := by
  obtain ⟨a, b, c⟩ := len_all n hn
  rcases pc_kind k n with h | h | h <;> rw [h] <;> assumption
theorem dig_all : ∀ n : Nat, n < 256 → (0 : Int) ≤ (Int.tdiv n 16) % 256 ∧ (Int.tdiv n 16) % 256 < 16 ∧ 0 ≤ Int.tmod n 16 ∧ Int.tmod n 16 < 16 := by decide +kernel

theorem hex_ext (l rest : List UInt8) (h : (hexL l).2.2 = 0) : hexL (l ++ rest) = hexL l := by
  match l with
  | [] => simp [hexL] at h
  | [a] =>
    exfalso
    by_cases hh : hexN a.toNat < 0 <;> simp [hexL, hh] at h
  | a :: b :: t => simp only [List.cons_append, hexL]
theorem esc_ext (l rest : List UInt8) (h : (escL l).2.2 = 0) : escL (l ++ rest) = escL l := by
  match l with
  | [] => simp [escL] at h
  | c :: t =>
    simp only [List.cons_append, escL] at h ⊢
    repeat' split
    all_goals first | rfl | skip
    rename_i h1 h2 h3 h4
    rw [if_neg h1, if_neg h2, if_neg h3, if_pos h4] at h
    exact hex_ext t rest h

theorem unq_piece (k : Int) (n : Nat) (hn : n < 256) (f : Nat) (rest : List UInt8) (acc : List Int) (pos frm : Nat) (ha : acc.length < 256) :
    unqL (f + 1) ((pc k n).map by_ ++ rest) acc pos frm = unqL f rest (acc ++ [(n : Int)]) (pos + (pc k n).length) frm := by
  have hg := pc_good k n hn
  generalize pc k n = p at hg
  cases p with
  | nil => cases hg
  | cons a q =>
    simp only [good, Bool.or_eq_true, Bool.and_eq_true, beq_iff_eq, bne_iff_ne, decide_eq_true_eq] at hg
    rcases hg with ⟨⟨⟨⟨h1, h2⟩, h3⟩, h4⟩, h5⟩ | ⟨h1, h2⟩
    · simp only [List.cons.injEq] at h1
      obtain ⟨h1, h6⟩ := h1
      subst h1 h6
      have hb : (by_ (n : Int)).toNat = n := by
        show (UInt8.ofNat _).toNat = n
        rw [Int.toNat_natCast]
        simp
        omega
      show unqL (f + 1) (by_ (n : Int) :: rest) acc pos frm = _
      rw [unqL, hb, if_neg h2, if_neg (by omega), if_neg h5, if_neg (by omega)]
      rfl
    · subst h1
      have he := esc_ext (q.map by_) rest (by rw [h2])
      rw [h2] at he
      show unqL (f + 1) (by_ 92 :: (q.map by_ ++ rest)) acc pos frm = _
      have hb : (by_ 92).toNat = 92 := rfl
      rw [unqL, hb, if_neg (by decide), if_neg (by decide), if_pos rfl, he, if_pos rfl, if_neg (by omega)]
      rw [Int.toNat_natCast]
      congr 1
      have : (by_ 92 :: (q.map by_ ++ rest)) = ((92 :: q).map by_) ++ rest := rfl
      rw [this, List.drop_left' (by rw [List.length_map])]

/-- The pieces of a text, from the i-th byte on. -/
def pcs (ks : Nat → Int) : Nat → List UInt8 → List Int
  | _, [] => []
  | i, c :: t => pc (ks i) c.toNat ++ pcs ks (i + 1) t
theorem pcs_len (ks : Nat → Int) : ∀ (t : List UInt8) (i : Nat), (pcs ks i t).length ≤ 4 * t.length ∧ t.length ≤ (pcs ks i t).length := by
  intro t
  induction t with
  | nil => intro i; simp [pcs]
  | cons c t ih =>
    intro i
    have := ih (i + 1)
    have h2 := pc_len (ks i) c.toNat c.toNat_lt
    simp only [pcs, List.length_append, List.length_cons]
    omega
theorem unq_pcs (ks : Nat → Int) : ∀ (t : List UInt8) (i f : Nat) (rest : List UInt8) (acc : List Int) (pos frm : Nat), acc.length + t.length ≤ 256 →
    unqL (f + t.length) ((pcs ks i t).map by_ ++ rest) acc pos frm = unqL f rest (acc ++ t.map fun b => (b.toNat : Int)) (pos + (pcs ks i t).length) frm := by
  intro t
  induction t with
  | nil => intro i f rest acc pos frm _; simp [pcs]
  | cons c t ih =>
    intro i f rest acc pos frm h
    simp only [List.length_cons] at h ⊢
    rw [show f + (t.length + 1) = (f + t.length) + 1 from rfl]
    simp only [pcs, List.map_append, List.append_assoc]
    rw [unq_piece _ _ c.toNat_lt _ _ _ _ _ (by omega), ih _ _ _ _ _ _ (by simp; omega)]
    simp only [List.map_cons, List.append_assoc, List.length_append, List.singleton_append]
    rw [Nat.add_assoc]

theorem quote_at (f : Nat) (t : List UInt8) (out : List S44) (pos : Nat) : scanL (f + 1) (34 :: t) out pos =
    (if (unqL (t.length + 1) t [] (pos + 1) pos).2.2 = 0 then scanL f ((34 :: t).drop ((unqL (t.length + 1) t [] (pos + 1) pos).2.1.toNat - pos)) (out ++ [⟨3, (unqL (t.length + 1) t [] (pos + 1) pos).1, pos⟩]) (unqL (t.length + 1) t [] (pos + 1) pos).2.1.toNat
       else ([], (unqL (t.length + 1) t [] (pos + 1) pos).2.1, (unqL (t.length + 1) t [] (pos + 1) pos).2.2)) := by
  have e1 : ((34 : UInt8) :: t).take 2 == [45, 45] ↔ False := by
    constructor
    · intro h
      have := eq_of_beq h
      cases t <;> simp at this
    · exact False.elim
  rw [scanL]
  rw [if_neg (by rw [e1]; exact id), if_neg (by decide), if_neg (by decide), if_neg (by decide), if_pos (by decide)]

theorem scan_open (ks : Nat → Int) (t : List UInt8) (ht : t.length ≤ 256) : scan (34 :: (pcs ks 0 t).map by_) = ([], 0, 52) := by
  have hl := pcs_len ks t 0
  have hm : ((pcs ks 0 t).map by_).length = (pcs ks 0 t).length := List.length_map ..
  unfold scan
  rw [if_neg (by rw [List.length_cons, hm]; omega), quote_at]
  have hu := unq_pcs ks t 0 (((pcs ks 0 t).map by_).length - t.length + 1) [] [] 1 0 (by simp; omega)
  rw [show ((pcs ks 0 t).map by_).length - t.length + 1 + t.length = ((pcs ks 0 t).map by_).length + 1 by rw [hm]; omega, List.append_nil] at hu
  rw [show 0 + 1 = 1 from rfl, hu]
  rw [show unqL (((pcs ks 0 t).map by_).length - t.length + 1) [] ([] ++ t.map fun b => (b.toNat : Int)) (1 + (pcs ks 0 t).length) 0 = (B [], ((0 : Nat) : Int), 52) from rfl]
  rw [if_neg (show ¬ ((52 : Int) = 0) by decide)]
  rfl
theorem scan_shut (ks : Nat → Int) (t : List UInt8) (ht : t.length ≤ 256) : scan (34 :: ((pcs ks 0 t).map by_ ++ [34])) = ([⟨3, B t, 0⟩, ⟨5, B [], ((pcs ks 0 t).length + 2 : Nat)⟩], 0, 0) := by
  have hl := pcs_len ks t 0
  have hm : ((pcs ks 0 t).map by_ ++ [34]).length = (pcs ks 0 t).length + 1 := by rw [List.length_append, List.length_map]; rfl
  unfold scan
  rw [if_neg (by rw [List.length_cons, hm]; omega), quote_at]
  have hu := unq_pcs ks t 0 ((pcs ks 0 t).length + 1 - t.length + 1) [34] [] 1 0 (by simp; omega)
  rw [show (pcs ks 0 t).length + 1 - t.length + 1 + t.length = ((pcs ks 0 t).map by_ ++ [34]).length + 1 by rw [hm]; omega] at hu
  rw [show 0 + 1 = 1 from rfl, hu]
  have e : unqL ((pcs ks 0 t).length + 1 - t.length + 1) [34] ([] ++ t.map fun b => (b.toNat : Int)) (1 + (pcs ks 0 t).length) 0 = (B t, ((1 + (pcs ks 0 t).length : Nat) : Int) + 1, 0) := by
    rw [unqL, if_pos (by decide), List.nil_append, strOfNums_bytes]
  rw [e, if_pos rfl]
  have e2 : (((1 + (pcs ks 0 t).length : Nat) : Int) + 1).toNat = (pcs ks 0 t).length + 2 := by omega
  simp only [e2]
  rw [List.drop_eq_nil_of_le (by rw [List.length_cons, hm]; omega), List.length_cons, hm]
  rfl

theorem S (l : List UInt8) : ∃ K, ∀ k, K ≤ k → token_Scan.f k (B l) = some (scan l) := scan_ev l
/-- How the law writes the i-th byte. -/
def ksOf (l1 : List Int) (i : Nat) : Int := if (i : Int) < (l1.length : Int) then Int.tmod (wrap64 (rd l1 (i : Int))) 3 else 0

theorem step_ev (x0 : ByteArray) (l1 x5 : List Int) (i : Int) (k : Int) (n : Nat) (hn : n < 256) (hx : x5.length + 4 < 140737488355328) (r : Bool)
    (h : Ev (fun K => refrainlaw5_TokenString.l0 K x0 l1 (x5 ++ pc k n) (wrap64 (i + 1))) r) : Ev (fun K => refrainlaw5_TokenString.j2 K x0 l1 x5 i (n : Int) k) r := by
  obtain ⟨d1, d2, d3, d4⟩ := dig_all n hn
  by_cases h1 : k = 1
  · refine Ev.step ?_ h
    intro K
    rw [refrainlaw5_TokenString.j2, if_pos h1, if_pos d1, if_pos d2, if_pos d3, if_pos d4, Option.bind_some]
    rw [if_pos (by simp; omega), pc, if_pos h1]
    rfl
  have t2 : ∀ r, Ev (fun K => refrainlaw5_TokenString.j3 K x0 l1 x5 i (n : Int) k (decide (k = 2 ∧ (n : Int) = 10))) r → Ev (fun K => refrainlaw5_TokenString.j2 K x0 l1 x5 i (n : Int) k) r := by
    intro r hr
    refine Ev.step ?_ hr
    intro K
    rw [refrainlaw5_TokenString.j2, if_neg h1]
    by_cases h2 : k = 2
    · rw [if_pos h2]
      congr 1
      rw [Bool.eq_iff_iff]
      simp [h2]
    · rw [if_neg h2]
      congr 1
      simp [h2]
  refine t2 _ ?_
  by_cases h10 : k = 2 ∧ (n : Int) = 10
  · refine Ev.step ?_ h
    intro K
    rw [refrainlaw5_TokenString.j3, if_pos (by simpa using h10), Option.bind_some]
    rw [if_pos (by simp; omega), pc, if_neg h1, if_pos h10]
  have t3 : ∀ r, Ev (fun K => refrainlaw5_TokenString.j4 K x0 l1 x5 i (n : Int) (decide (k = 2 ∧ (n : Int) = 9))) r → Ev (fun K => refrainlaw5_TokenString.j3 K x0 l1 x5 i (n : Int) k (decide (k = 2 ∧ (n : Int) = 10))) r := by
    intro r hr
    refine Ev.step ?_ hr
    intro K
    rw [refrainlaw5_TokenString.j3, if_neg (by simpa using h10)]
    by_cases h2 : k = 2
    · rw [if_pos h2]
      congr 1
      rw [Bool.eq_iff_iff]
      simp [h2]
    · rw [if_neg h2]
      congr 1
      simp [h2]
  refine t3 _ ?_
  by_cases h9 : k = 2 ∧ (n : Int) = 9
  · refine Ev.step ?_ h
    intro K
    rw [refrainlaw5_TokenString.j4, if_pos (by simpa using h9), Option.bind_some]
    rw [if_pos (by simp; omega), pc, if_neg h1, if_neg h10, if_pos h9]
  have t4 : ∀ r, Ev (fun K => refrainlaw5_TokenString.j5 K x0 l1 x5 i (n : Int) (decide ((n : Int) = 34 ∨ (n : Int) = 92))) r → Ev (fun K => refrainlaw5_TokenString.j4 K x0 l1 x5 i (n : Int) (decide (k = 2 ∧ (n : Int) = 9))) r := by
    intro r hr
    refine Ev.step ?_ hr
    intro K
    rw [refrainlaw5_TokenString.j4, if_neg (by simpa using h9)]
    by_cases h2 : (n : Int) = 34
    · rw [if_pos h2]
      congr 1
      simp [h2]
    · rw [if_neg h2]
      congr 1
      rw [Bool.eq_iff_iff]
      simp [h2]
  refine t4 _ ?_
  by_cases h34 : (n : Int) = 34 ∨ (n : Int) = 92
  · refine Ev.step ?_ h
    intro K
    rw [refrainlaw5_TokenString.j5, if_pos (by simpa using h34), Option.bind_some]
    rw [if_pos (by simp; omega), pc, if_neg h1, if_neg h10, if_neg h9, if_pos h34]
  refine Ev.step ?_ h
  intro K
  rw [refrainlaw5_TokenString.j5, if_neg (by simpa using h34)]
  rw [pc, if_neg h1, if_neg h10, if_neg h9, if_neg h34]
  by_cases h32 : (n : Int) < 32
  · rw [if_pos h32, if_pos d1, if_pos d2, if_pos d3, if_pos d4, Option.bind_some, if_pos (by simp; omega), if_pos (.inl h32)]
    rfl
  · rw [if_neg h32]
    by_cases h126 : (n : Int) > 126
    · rw [if_pos h126, if_pos d1, if_pos d2, if_pos d3, if_pos d4, Option.bind_some, if_pos (by simp; omega), if_pos (.inr h126)]
      rfl
    · rw [if_neg h126, if_pos (by omega), if_neg (by omega)]

theorem end_ev (l : List UInt8) (hl : l.length ≤ 256) (l1 : List Int) : Ev (fun K => refrainlaw5_TokenString.l0 K (B l) l1 (34 :: pcs (ksOf l1) 0 l) (l.length : Int)) true := by
  have hp := pcs_len (ksOf l1) l 0
  have hB1 : strOfNums (34 :: pcs (ksOf l1) 0 l) = B (34 :: (pcs (ksOf l1) 0 l).map by_) := rfl
  have hB2 : strOfNums (34 :: pcs (ksOf l1) 0 l ++ [34]) = B (34 :: ((pcs (ksOf l1) 0 l).map by_ ++ [34])) := by
    rw [strOfNums_nat, List.map_append]
    rfl
  obtain ⟨K1, h1⟩ := S (34 :: (pcs (ksOf l1) 0 l).map by_)
  obtain ⟨K2, h2⟩ := S (34 :: ((pcs (ksOf l1) 0 l).map by_ ++ [34]))
  rw [scan_open _ _ hl] at h1
  rw [scan_shut _ _ hl] at h2
  generalize pcs (ksOf l1) 0 l = p at *
  refine Ev.of (fun k => (refrainlaw5_TokenString.mono_l k).2.1 _ _ _ _) (k := K1 + K2 + 1) ?_
  rw [refrainlaw5_TokenString.l0]
  rw [if_neg (by rw [B_size]; omega), hB1, h1 (K1 + K2) (by omega), Option.bind_some, if_pos rfl, if_pos rfl, if_pos (show (((([] : List S44).length : Nat) : Int) = 0) from rfl)]
  rw [if_pos (by simp; omega), Option.bind_some, hB2, h2 (K1 + K2) (by omega), Option.bind_some]
  rw [if_pos rfl, if_pos (show ((([⟨3, B l, 0⟩, ⟨5, B [], ((p.length + 2 : Nat) : Int)⟩] : List S44).length : Nat) : Int) = 2 from rfl)]
  rw [if_pos (show (0 : Int) < ((([⟨3, B l, 0⟩, ⟨5, B [], ((p.length + 2 : Nat) : Int)⟩] : List S44).length : Nat) : Int) by simp)]
  have e0 : (34 :: p ++ [34]).length = p.length + 2 := by simp
  rw [e0]
  have r0 : rd_T44 [⟨3, B l, 0⟩, ⟨5, B [], ((p.length + 2 : Nat) : Int)⟩] 0 = ⟨3, B l, 0⟩ := rfl
  have r1 : rd_T44 [⟨3, B l, 0⟩, ⟨5, B [], ((p.length + 2 : Nat) : Int)⟩] 1 = ⟨5, B [], ((p.length + 2 : Nat) : Int)⟩ := rfl
  rw [r0, r1]
  simp

theorem loop_ev (l : List UInt8) (hl : l.length ≤ 256) (l1 : List Int) : ∀ (rest pre : List UInt8) (x5 : List Int), pre ++ rest = l → x5 ++ pcs (ksOf l1) pre.length rest = 34 :: pcs (ksOf l1) 0 l →
    Ev (fun K => refrainlaw5_TokenString.l0 K (B l) l1 x5 (pre.length : Int)) true := by
  intro rest
  induction rest with
  | nil =>
    intro pre x5 hp hx
    simp only [pcs, List.append_nil] at hx hp
    rw [hx, hp]
    exact end_ev l hl l1
  | cons c t ih =>
    intro pre x5 hp hx
    have hlen : pre.length + t.length + 1 = l.length := by rw [← hp]; simp; omega
    have hb : bt (B l) (pre.length : Int) = (c.toNat : Int) := by rw [← hp, bt_mid]
    have hxl : x5.length ≤ 1025 := by
      have h2 := congrArg List.length hx
      have h3 := pcs_len (ksOf l1) l 0
      rw [List.length_append, List.length_cons] at h2
      omega
    have := ih (pre ++ [c]) (x5 ++ pc (ksOf l1 pre.length) c.toNat) (by rw [← hp]; simp) (by
      rw [← hx, pcs, List.append_assoc, List.length_append]
      rfl)
    rw [show ((pre ++ [c]).length : Int) = wrap64 ((pre.length : Int) + 1) by rw [w64 (by omega) (by omega)]; simp] at this
    have h2 := step_ev (B l) l1 x5 (pre.length : Int) (ksOf l1 pre.length) c.toNat c.toNat_lt (by omega) true this
    refine Ev.step ?_ h2
    intro K
    rw [refrainlaw5_TokenString.l0, if_pos (by rw [B_size]; omega), if_pos (by omega), hb, ksOf]
    by_cases hh : (pre.length : Int) < (l1.length : Int)
    · rw [if_pos hh, if_pos hh]
    · rw [if_neg hh, if_neg hh]

theorem main_ev (l : List UInt8) (hl : l.length ≤ 256) (l1 : List Int) : Ev (fun K => refrainlaw5_TokenString.j0 K (B l) l1) true := by
  refine Ev.step ?_ (loop_ev l hl l1 l [] [34] rfl rfl)
  intro K
  rw [refrainlaw5_TokenString.j0, if_pos (by simp)]
  rfl

theorem TokenString : refrainlaw5_TokenString.Pure := by
  intro a0 l1 _ _ _ _
  unfold refrainlaw5_TokenString.f
  rw [← B_of a0]
  generalize a0.data.toList = l
  by_cases h : ((B l).size : Int) > 256
  · rw [B_size] at h
    obtain ⟨k, hk⟩ := (main_ev (l.take 256) (by rw [List.length_take]; omega) l1).rounds
    refine ⟨k, ?_⟩
    rw [if_pos (by rw [B_size]; exact h), if_pos (by decide), if_pos (by rw [B_size]; omega), B_extract]
    exact hk
  · obtain ⟨k, hk⟩ := (main_ev l (by rw [B_size] at h; omega) l1).rounds
    exact ⟨k, by rw [if_neg h]; exact hk⟩
end Go.Proofs.YthmcapdakplhdaaDoor.PureS
namespace Go.Proofs.YthmcapdakplhdaaDoor.Pure
open Go.RowKit Go.Proofs.YthmcapdakplhdaaDoor.Pr
theorem TokenString : refrainlaw5_TokenString.Pure := Go.Proofs.YthmcapdakplhdaaDoor.PureS.TokenString
end Go.Proofs.YthmcapdakplhdaaDoor.Pure

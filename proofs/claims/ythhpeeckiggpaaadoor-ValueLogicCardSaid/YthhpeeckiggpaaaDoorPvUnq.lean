import Derived.Test.YthhpeeckiggpaaaDoorPuBase
import Derived.Lib.ParseIntBCases
import Derived.Lib.ItoaNum
import Derived.Lib.ItoaLen
import Derived.Test.YthhpeeckiggpaaaDoorPrx4
import Derived.Test.YthhpeeckiggpaaaDoorExtVq
namespace Go.Proofs.YthhpeeckiggpaaaDoor.Pv
open Go.RowKit Go.Proofs.YthhpeeckiggpaaaDoor.Pu Go.Proofs.YthhpeeckiggpaaaDoorW.PrintWords Go.Proofs.YthhpeeckiggpaaaDoorW.PrintLast Go.Proofs.YthhpeeckiggpaaaDoorW.PrintMore
set_option linter.unusedVariables false
set_option linter.unusedSimpArgs false

/-- A decimal numeral is read as the number that it spells. No program, no memory. -/
theorem pum_append (M : Nat) : ∀ (l : List UInt8) (acc : Nat) (r : List UInt8) (a : Nat), Lib.parseUintM M acc l = .ok a → Lib.parseUintM M acc (l ++ r) = Lib.parseUintM M a r := by
  intro l
  induction l with
  | nil => intro acc r a h; simp only [Lib.parseUintM] at h; injection h with h; subst h; rfl
  | cons c t ih =>
    intro acc r a h
    rw [List.cons_append]
    rw [Lib.parseUintM] at h
    rw [Lib.parseUintM]
    by_cases h1 : 48 ≤ c.toNat ∧ c.toNat ≤ 57
    · rw [if_pos h1] at h
      rw [if_pos h1]
      by_cases h2 : 1844674407370955162 ≤ acc
      · rw [if_pos h2] at h; cases h
      · rw [if_neg h2] at h
        rw [if_neg h2]
        by_cases h3 : M < acc * 10 + (c.toNat - 48)
        · rw [if_pos h3] at h; cases h
        · rw [if_neg h3] at h
          rw [if_neg h3]
          exact ih _ r a h
    · rw [if_neg h1] at h; cases h
theorem digc (d : Nat) (h : d < 10) : (UInt8.ofNat (48 + d)).toNat = 48 + d := by
  rw [UInt8.toNat_ofNat']; omega
theorem pum_dec (u : Nat) (h : u ≤ 18446744073709551615) : Lib.parseUintM 18446744073709551615 0 (Lib.decDigits u) = .ok u := by
  induction u using Nat.strongRecOn with
  | _ u ih =>
    by_cases h1 : u < 10
    · rw [Lib.decDigits, dif_pos h1, Lib.parseUintM, digc u h1, if_pos (by omega), if_neg (by omega), if_neg (by omega), Lib.parseUintM]
      congr 1
      omega
    · rw [Lib.decDigits, dif_neg h1, pum_append _ _ _ _ _ (ih (u / 10) (by omega) (by omega)), Lib.parseUintM, digc (u % 10) (by omega), if_pos (by omega), if_neg (by omega), if_neg (by omega), Lib.parseUintM]
      congr 1
      omega
theorem dec_digits (u : Nat) : ∀ c ∈ Lib.decDigits u, 48 ≤ c.toNat ∧ c.toNat ≤ 57 := by
  induction u using Nat.strongRecOn with
  | _ u ih =>
    intro c hc
    by_cases h1 : u < 10
    · rw [Lib.decDigits, dif_pos h1, List.mem_singleton] at hc
      rw [hc, digc u h1]; omega
    · rw [Lib.decDigits, dif_neg h1, List.mem_append, List.mem_singleton] at hc
      rcases hc with hc | hc
      · exact ih (u / 10) (by omega) c hc
      · rw [hc, digc _ (by omega)]; omega
theorem dec_ne (u : Nat) : Lib.decDigits u ≠ [] := by
  rw [Lib.decDigits]; split <;> simp
theorem dec_cons (u : Nat) : ∃ c r, Lib.decDigits u = c :: r ∧ 48 ≤ c.toNat ∧ c.toNat ≤ 57 := by
  cases h : Lib.decDigits u with
  | nil => exact absurd h (dec_ne u)
  | cons c r => exact ⟨c, r, rfl, dec_digits u c (by rw [h]; simp)⟩
theorem pub_dec (u : Nat) (h : u ≤ 18446744073709551615) : Lib.parseUintB 64 (Lib.decDigits u) = .ok u := by
  unfold Lib.parseUintB
  rw [if_neg (dec_ne u)]
  exact pum_dec u h
theorem parse_itoa (n : Int) (h0 : -9223372036854775808 ≤ n) (h1 : n ≤ 9223372036854775807) : Lib.parseIntB 64 (Lib.itoa n) = .ok n := by
  unfold Lib.itoa
  by_cases hn : n < 0
  · rw [if_pos hn, Lib.parseIntB_minus, pub_dec _ (by omega)]
    simp only [Lib.signedC]
    rw [if_neg (by omega)]
    congr 1
    omega
  · rw [if_neg hn]
    obtain ⟨c, r, hc, h2, h3⟩ := dec_cons n.toNat
    rw [hc, Lib.parseIntB_plain _ _ _ (by omega) (by omega), ← hc, pub_dec _ (by omega)]
    simp only [Lib.signlessC]
    rw [if_neg (by omega)]
    congr 1
    omega
end Go.Proofs.YthhpeeckiggpaaaDoor.Pv
namespace Go.Proofs.YthhpeeckiggpaaaDoor.Pv
open Go.RowKit Go.Proofs.YthhpeeckiggpaaaDoor.Pu Go.Proofs.YthhpeeckiggpaaaDoor.Pr Go.Proofs.YthhpeeckiggpaaaDoorW.PrintWords Go.Proofs.YthhpeeckiggpaaaDoorW.PrintLast Go.Proofs.YthhpeeckiggpaaaDoorW.PrintMore
set_option linter.unusedVariables false
set_option linter.unusedSimpArgs false

/-- What value.unquoted makes of the bytes between the quotes, behind what it has; none: it refuses. -/
def uqP (acc : List UInt8) : List UInt8 → Option (List UInt8)
  | [] => some acc
  | c :: t => if c.toNat = 92 then (match t with
      | [] => none
      | d :: t2 => if d.toNat = 110 then uqP (acc ++ [10]) t2 else if d.toNat = 116 then uqP (acc ++ [9]) t2 else if d.toNat = 120 then (match t2 with
          | a :: b :: t3 => (match resH 0 [a, b] with
              | some u => uqP (acc ++ [UInt8.ofNat u]) t3
              | none => none)
          | _ => none) else uqP (acc ++ [d]) t2)
    else uqP (acc ++ [c]) t
termination_by l => l.length
decreasing_by all_goals simp_wf; all_goals omega

theorem resH_lt {a b : UInt8} {u : Nat} (h : resH 0 [a, b] = some u) : u < 256 := by
  simp only [resH] at h
  cases ha : hexV a with
  | none => rw [ha] at h; cases h
  | some x =>
    rw [ha] at h
    simp only at h
    cases hb : hexV b with
    | none => rw [hb] at h; cases h
    | some y =>
      rw [hb] at h
      have := hexV_lt ha
      have := hexV_lt hb
      injection h with h
      omega
def unB (o : Option (List UInt8)) : ByteArray × Bool := match o with
  | some r => (B r, true)
  | none => (⟨#[]⟩, false)
def nat8 (l : List UInt8) : List Int := l.map fun b => (b.toNat : Int)
theorem nat8_snoc (l : List UInt8) (c : UInt8) : nat8 (l ++ [c]) = nat8 l ++ [(c.toNat : Int)] := by simp [nat8]
theorem nat8_len (l : List UInt8) : (nat8 l).length = l.length := by simp [nat8]
set_option maxHeartbeats 1000000 in
theorem unq_step (K : Nat) (s : ByteArray) (acc : List Int) (i : Nat) (hs : s.size ≤ 140737488351232) (hi : i < s.size) (ha : acc.length < 140737488355328) :
    value_unquoted.l0 (K + 1) s acc (i : Int) =
      if bt s (i : Int) = 92 then
        (if s.size ≤ i + 1 then some ((⟨#[]⟩ : ByteArray), false) else
          if bt s ((i + 1 : Nat) : Int) = 110 then value_unquoted.l0 K s (acc ++ [10]) ((i + 2 : Nat) : Int) else
          if bt s ((i + 1 : Nat) : Int) = 116 then value_unquoted.l0 K s (acc ++ [9]) ((i + 2 : Nat) : Int) else
          if bt s ((i + 1 : Nat) : Int) = 120 then
            (if s.size ≤ i + 3 then some ((⟨#[]⟩ : ByteArray), false) else (strconv_ParseUint.f (s.extract (i + 2) (i + 4)) 16 8).bind fun b => if b.2.isNone = true then value_unquoted.l0 K s (acc ++ [b.1 % 256]) ((i + 4 : Nat) : Int) else some ((⟨#[]⟩ : ByteArray), false))
          else value_unquoted.l0 K s (acc ++ [bt s ((i + 1 : Nat) : Int)]) ((i + 2 : Nat) : Int))
      else value_unquoted.l0 K s (acc ++ [bt s (i : Int)]) ((i + 1 : Nat) : Int) := by
  have w1 : wrap64 ((i : Int) + 1) = ((i + 1 : Nat) : Int) := by rw [w64 (by omega) (by omega)]; omega
  have w2 : wrap64 (((i + 1 : Nat) : Int) + 1) = ((i + 2 : Nat) : Int) := by rw [w64 (by omega) (by omega)]; omega
  have w3 : wrap64 (((i + 1 : Nat) : Int) + 2) = ((i + 3 : Nat) : Int) := by rw [w64 (by omega) (by omega)]; omega
  have w4 : wrap64 (((i + 1 : Nat) : Int) + 3) = ((i + 4 : Nat) : Int) := by rw [w64 (by omega) (by omega)]; omega
  have w5 : wrap64 (((i + 3 : Nat) : Int) + 1) = ((i + 4 : Nat) : Int) := by rw [w64 (by omega) (by omega)]; omega
  rw [value_unquoted.l0, if_pos (by omega), if_pos (by omega)]
  by_cases h : bt s (i : Int) = 92
  · rw [if_pos h, if_pos h, w1]
    by_cases h1 : s.size ≤ i + 1
    · rw [if_pos (by omega), if_pos h1]
    rw [if_neg (by omega), if_neg h1, if_pos (by omega), if_pos (by omega)]
    by_cases h2 : bt s ((i + 1 : Nat) : Int) = 110
    · rw [if_pos h2, if_pos h2, if_pos ha, w2]
    rw [if_neg h2, if_neg h2]
    by_cases h3 : bt s ((i + 1 : Nat) : Int) = 116
    · rw [if_pos h3, if_pos h3, if_pos ha, w2]
    rw [if_neg h3, if_neg h3]
    by_cases h4 : bt s ((i + 1 : Nat) : Int) = 120
    · rw [if_pos h4, if_pos h4, w3]
      by_cases h5 : s.size ≤ i + 3
      · rw [if_pos (by omega), if_pos h5]
      rw [if_neg (by omega), if_neg h5, w2, w4, if_pos (by omega), if_pos (by omega), if_pos (by omega), w5, Int.toNat_natCast, Int.toNat_natCast]
      cases strconv_ParseUint.f (s.extract (i + 2) (i + 4)) 16 8 with
      | none => rfl
      | some b =>
        rw [Option.bind_some, Option.bind_some]
        by_cases h6 : b.2.isNone = true
        · rw [if_pos h6, if_pos h6, if_pos ha]
        · rw [if_neg h6, if_neg h6]
    · rw [if_neg h4, if_neg h4, if_pos ha, w2]
  · rw [if_neg h, if_neg h, if_pos ha, w1]
theorem pu_two (a b : UInt8) : strconv_ParseUint.f (B [a, b]) 16 8 = match resH 0 [a, b] with
    | some u => some ((u : Int), none)
    | none => some (0, some 0) := by
  unfold strconv_ParseUint.f
  rw [if_pos ⟨rfl, rfl, rfl⟩]
  rfl
theorem bt_at2 (l : List UInt8) (i : Nat) (c : UInt8) (t : List UInt8) (h : l.drop i = c :: t) : bt (B l) (i : Int) = (c.toNat : Int) := by
  have hlt : i < l.length := by
    rcases Nat.lt_or_ge i l.length with h1 | h1
    · exact h1
    · rw [List.drop_eq_nil_of_le h1] at h; cases h
  have e : l = l.take i ++ c :: t := by rw [← h, List.take_append_drop]
  have hl : (l.take i).length = i := by rw [List.length_take]; omega
  have := bt_mid (l.take i) c t
  rw [← e, hl] at this
  exact this
theorem drop_next {l : List UInt8} {i : Nat} {c : UInt8} {t : List UInt8} (h : l.drop i = c :: t) : l.drop (i + 1) = t ∧ i < l.length := by
  constructor
  · rw [← List.drop_drop, h]; rfl
  · rcases Nat.lt_or_ge i l.length with h1 | h1
    · exact h1
    · rw [List.drop_eq_nil_of_le h1] at h; cases h
theorem drop_len {l : List UInt8} {i : Nat} {t : List UInt8} (h : l.drop i = t) : l.length - i = t.length := by rw [← h, List.length_drop]
set_option maxHeartbeats 1000000 in
theorem unq_loop (l : List UInt8) (hN : l.length ≤ 140737488351232) : ∀ (m i : Nat) (rest acc : List UInt8), rest.length = m → l.drop i = rest → acc.length ≤ i → i ≤ l.length →
    Ev (fun k => value_unquoted.l0 k (B l) (nat8 acc) (i : Int)) (unB (uqP acc rest)) := by
  intro m
  induction m using Nat.strongRecOn with
  | _ m ih =>
    intro i rest acc hm hd ha hi
    have hal := nat8_len acc
    have hdl := drop_len hd
    cases rest with
    | nil =>
      refine Ev.step (f := fun _ => some (unB (uqP acc []))) ?_ (Ev.now _)
      intro K
      rw [value_unquoted.l0, if_neg (by rw [B_size]; simp at hdl; omega), uqP]
      unfold nat8 unB
      rw [strOfNums_bytes]
    | cons c t =>
      obtain ⟨hd1, hlt⟩ := drop_next hd
      have hb := bt_at2 l i c t hd
      have hm1 : t.length + 1 = m := by simpa using hm
      have st := fun K => unq_step K (B l) (nat8 acc) i (by rw [B_size]; exact hN) (by rw [B_size]; exact hlt) (by omega)
      rw [hb, B_size] at st
      have one : ∀ (x : UInt8), Ev (fun k => value_unquoted.l0 k (B l) (nat8 acc ++ [(x.toNat : Int)]) ((i + 1 : Nat) : Int)) (unB (uqP (acc ++ [x]) t)) := fun x => by
        rw [← nat8_snoc]
        exact ih t.length (by omega) (i + 1) t (acc ++ [x]) rfl hd1 (by simp; omega) (by omega)
      by_cases h92 : c.toNat = 92
      · have hc : ((c.toNat : Nat) : Int) = 92 := by omega
        simp only [if_pos hc] at st
        rw [uqP.eq_def]; dsimp only; rw [if_pos h92]
        cases t with
        | nil =>
          have h1 : l.length ≤ i + 1 := by simp at hdl; omega
          simp only [if_pos h1] at st
          exact Ev.step st (Ev.now _)
        | cons d t2 =>
          obtain ⟨hd2, hlt2⟩ := drop_next hd1
          have hb2 := bt_at2 l (i + 1) d t2 hd1
          rw [hb2] at st
          simp only [if_neg (show ¬ l.length ≤ i + 1 by omega)] at st
          have hm2 : t2.length + 2 = m := by simp at hm1; omega
          have go : ∀ (x : UInt8), Ev (fun k => value_unquoted.l0 k (B l) (nat8 acc ++ [(x.toNat : Int)]) ((i + 2 : Nat) : Int)) (unB (uqP (acc ++ [x]) t2)) := fun x => by
            rw [← nat8_snoc]
            exact ih t2.length (by omega) (i + 2) t2 (acc ++ [x]) rfl hd2 (by simp; omega) (by omega)
          by_cases h110 : d.toNat = 110
          · simp only [if_pos (show ((d.toNat : Nat) : Int) = 110 by omega)] at st
            simp only [if_pos h110]
            exact Ev.step st (go 10)
          simp only [if_neg (show ¬ ((d.toNat : Nat) : Int) = 110 by omega)] at st
          simp only [if_neg h110]
          by_cases h116 : d.toNat = 116
          · simp only [if_pos (show ((d.toNat : Nat) : Int) = 116 by omega)] at st
            simp only [if_pos h116]
            exact Ev.step st (go 9)
          simp only [if_neg (show ¬ ((d.toNat : Nat) : Int) = 116 by omega)] at st
          simp only [if_neg h116]
          by_cases h120 : d.toNat = 120
          · simp only [if_pos (show ((d.toNat : Nat) : Int) = 120 by omega)] at st
            simp only [if_pos h120]
            have hdl2 := drop_len hd2
            match t2, hd2, hm2, hdl2 with
            | [], hd2, hm2, hdl2 =>
              simp only [if_pos (show l.length ≤ i + 3 by simp at hdl2; omega)] at st
              exact Ev.step st (Ev.now _)
            | [a], hd2, hm2, hdl2 =>
              simp only [if_pos (show l.length ≤ i + 3 by simp at hdl2; omega)] at st
              exact Ev.step st (Ev.now _)
            | a :: b :: t3, hd2, hm2, hdl2 =>
              have h3 : ¬ l.length ≤ i + 3 := by simp at hdl2; omega
              simp only [if_neg h3] at st
              have hd3 : l.drop (i + 4) = t3 := by rw [show i + 4 = (i + 2) + 2 by omega, ← List.drop_drop, hd2]; rfl
              have hx : (B l).extract (i + 2) (i + 4) = B [a, b] := by
                rw [B_extract, List.drop_take, hd2, show i + 4 - (i + 2) = 2 by omega]
                rfl
              rw [hx, pu_two] at st
              cases hr : resH 0 [a, b] with
              | none =>
                rw [hr] at st
                dsimp only
                rw [hr]
                exact Ev.step (f := fun _ => some ((⟨#[]⟩ : ByteArray), false)) (fun K => (st K).trans rfl) (Ev.now _)
              | some u =>
                rw [hr] at st
                dsimp only
                rw [hr]
                dsimp only
                have hu := resH_lt hr
                have h5 := ih t3.length (by simp at hm2; omega) (i + 4) t3 (acc ++ [UInt8.ofNat u]) rfl hd3 (by simp; omega) (by simp at hdl2; omega)
                rw [nat8_snoc, show ((UInt8.ofNat u).toNat : Int) = (u : Int) % 256 by rw [UInt8.toNat_ofNat']; omega] at h5
                exact Ev.step (f := fun k => value_unquoted.l0 k (B l) (nat8 acc ++ [(u : Int) % 256]) ((i + 4 : Nat) : Int)) (fun K => (st K).trans rfl) h5
          · simp only [if_neg (show ¬ ((d.toNat : Nat) : Int) = 120 by omega)] at st
            simp only [if_neg h120]
            exact Ev.step st (go d)
      · simp only [if_neg (show ¬ ((c.toNat : Nat) : Int) = 92 by omega)] at st
        rw [uqP.eq_def]; dsimp only; rw [if_neg h92]
        exact Ev.step st (one c)
/-- value.unquoted, on bytes. -/
def unqP (l : List UInt8) : Option (List UInt8) := if l.length < 2 ∨ l.head? ≠ some 34 ∨ l.getLast? ≠ some 34 then none else uqP [] ((l.drop 1).take (l.length - 2))
theorem bt_last (l : List UInt8) (h : l ≠ []) : bt (B l) ((l.length : Int) - 1) = ((l.getLast h).toNat : Int) := by
  have hl := List.length_pos_iff.mpr h
  have := bt_at2 l (l.length - 1) (l.getLast h) [] (by rw [List.drop_eq_getElem_cons (by omega), List.getLast_eq_getElem, List.drop_eq_nil_of_le (by omega)])
  rw [← this]
  congr 1
  omega
set_option maxHeartbeats 1000000 in
theorem unquoted_ev (l : List UInt8) (hl : l.length ≤ 140737488351232) : Ev (fun k => value_unquoted.f k (B l)) (unB (unqP l)) := by
  have no : Ev (fun k => value_unquoted.j0 k (B l) true) (unB none) := by
    refine Ev.step (f := fun _ => some ((⟨#[]⟩ : ByteArray), false)) ?_ (Ev.now _)
    intro K
    rw [value_unquoted.j0, if_pos rfl]
  unfold unqP
  by_cases h2 : l.length < 2
  · rw [if_pos (.inl h2)]
    refine Ev.congr (fun k => ?_) no
    rw [value_unquoted.f, if_pos (by rw [B_size]; omega)]
  have hne : l ≠ [] := fun e => by rw [e] at h2; simp at h2
  obtain ⟨c, t, rfl⟩ : ∃ c t, l = c :: t := by cases l with
    | nil => exact absurd rfl hne
    | cons c t => exact ⟨c, t, rfl⟩
  have hb0 := bt_head c t
  by_cases h34 : c.toNat = 34
  rotate_left
  · rw [if_pos (.inr (.inl (by simp; intro e; rw [e] at h34; exact h34 rfl)))]
    refine Ev.congr (fun k => ?_) no
    rw [value_unquoted.f, if_neg (by rw [B_size]; omega), if_pos (by rw [B_size]; omega), hb0, if_neg (by omega)]
  have hw : wrap64 (((B (c :: t)).size : Int) - 1) = (((c :: t).length : Int) - 1) := by rw [B_size, w64 (by omega) (by omega)]
  have hbl := bt_last (c :: t) hne
  have st : ∀ k, value_unquoted.f k (B (c :: t)) = value_unquoted.j0 k (B (c :: t)) (((((c :: t).getLast hne).toNat : Nat) : Int) != 34) := fun k => by
    rw [value_unquoted.f, if_neg (by rw [B_size]; omega), if_pos (by rw [B_size]; omega), hb0, if_pos (by omega), if_pos (by rw [hw]; omega), if_pos (by rw [hw, B_size]; omega), hw, hbl]
  have hlast : (c :: t).getLast? = some ((c :: t).getLast hne) := List.getLast?_eq_some_getLast hne
  by_cases hl34 : ((c :: t).getLast hne).toNat = 34
  · have hc : c = 34 := UInt8.toNat_inj.mp h34
    have hlc : (c :: t).getLast hne = 34 := UInt8.toNat_inj.mp hl34
    rw [if_neg (fun h => by rcases h with h | h | h; exact h2 h; exact h (by rw [hc]; rfl); exact h (by rw [hlast, hlc]))]
    refine Ev.congr st ?_
    have hm : (((((c :: t).getLast hne).toNat : Nat) : Int) != 34) = false := by simp; omega
    rw [hm]
    have hx : (B (c :: t)).extract 1 ((((c :: t).length : Int) - 1)).toNat = B (((c :: t).drop 1).take ((c :: t).length - 2)) := by
      rw [B_extract, List.drop_take, show (((c :: t).length : Int) - 1).toNat - 1 = (c :: t).length - 2 by omega]
    have hin := unq_loop (((c :: t).drop 1).take ((c :: t).length - 2)) (by rw [List.length_take, List.length_drop]; omega) _ 0 _ [] rfl rfl (by simp) (by omega)
    refine Ev.step ?_ hin
    intro K
    rw [value_unquoted.j0, if_neg (by simp), if_pos (by rw [hw]; omega), if_pos (by rw [hw, B_size]; omega), hw, hx]
    rfl
  · rw [if_pos (.inr (.inr (by rw [hlast]; simp; intro e; rw [e] at hl34; exact hl34 rfl)))]
    refine Ev.congr st ?_
    have hm : (((((c :: t).getLast hne).toNat : Nat) : Int) != 34) = true := by simp; omega
    rw [hm]
    exact no
/-- What is written of a string is read back. -/
theorem uqP_qv (c : UInt8) (acc rest : List UInt8) : uqP acc (qv c ++ rest) = uqP (acc ++ [c]) rest := by
  have h92 : (92 : UInt8).toNat = 92 := rfl
  unfold qv
  by_cases h1 : c.toNat = 34 ∨ c.toNat = 92
  · rw [if_pos h1]
    rw [uqP.eq_def]
    simp only [List.cons_append, List.nil_append, h92, if_true]
    rw [if_neg (by omega), if_neg (by omega), if_neg (by omega)]
  rw [if_neg h1]
  by_cases h2 : c.toNat = 10
  · rw [if_pos h2, uqP.eq_def]
    have : c = 10 := UInt8.toNat_inj.mp h2
    subst this
    simp only [List.cons_append, List.nil_append, h92, if_true]
    rfl
  rw [if_neg h2]
  by_cases h3 : c.toNat = 9
  · rw [if_pos h3, uqP.eq_def]
    have : c = 9 := UInt8.toNat_inj.mp h3
    subst this
    simp only [List.cons_append, List.nil_append, h92, if_true]
    rfl
  rw [if_neg h3]
  by_cases h4 : c.toNat < 32 ∨ 126 < c.toNat
  · rw [if_pos h4, uqP.eq_def]
    have hx : ∀ n : Nat, n < 256 → resH 0 [hexd (n / 16), hexd (n % 16)] = some n := by decide +kernel
    simp only [List.cons_append, List.nil_append, h92, if_true]
    rw [if_neg (by decide), if_neg (by decide), if_pos (by decide), hx c.toNat c.toNat_lt]
    simp
  · rw [if_neg h4, List.singleton_append, uqP.eq_def]
    dsimp only
    rw [if_neg (by omega)]
theorem uqP_qvs (l : List UInt8) : ∀ acc, uqP acc (l.flatMap qv) = some (acc ++ l) := by
  induction l with
  | nil => intro acc; rw [List.flatMap_nil, uqP.eq_def, List.append_nil]
  | cons c t ih => intro acc; rw [List.flatMap_cons, uqP_qv, ih]; simp
theorem unqP_qvs (l : List UInt8) : unqP (qvs l) = some l := by
  unfold unqP qvs
  have hl : (34 :: (l.flatMap qv ++ [34])).getLast? = some 34 := by rw [← List.cons_append, List.getLast?_append]; rfl
  rw [if_neg (by rw [hl]; simp)]
  have : ((34 :: (l.flatMap qv ++ [34])).drop 1).take ((34 :: (l.flatMap qv ++ [34])).length - 2) = l.flatMap qv := by simp
  rw [this, uqP_qvs]
  simp
end Go.Proofs.YthhpeeckiggpaaaDoor.Pv

import Derived.Test.YthmcapdakplhdaaDoorPuTok2
namespace Go.Proofs.YthmcapdakplhdaaDoor.Pu
open Go.RowKit Go.Proofs.YthmcapdakplhdaaDoor.Pr Go.Proofs.YthmcapdakplhdaaDoorW.PrintWords Go.Proofs.YthmcapdakplhdaaDoorW.PrintLast Go.Proofs.YthmcapdakplhdaaDoorW.PrintMore
set_option linter.unusedVariables false
set_option linter.unusedSimpArgs false

theorem hex_len (l : List UInt8) (h : (hexL l).2.2 = 0) : (hexL l).2.1 = 4 ∧ 2 ≤ l.length := by
  match l with
  | [] => simp [hexL] at h
  | [a] =>
    exfalso
    by_cases hh : hexN a.toNat < 0 <;> simp [hexL, hh] at h
  | a :: b :: t =>
    simp only [hexL] at h ⊢
    split at h
    · simp at h
    · split at h
      · simp at h
      · rename_i h1 h2
        rw [if_neg h1, if_neg h2]
        exact ⟨rfl, by simp⟩
theorem esc_len (l : List UInt8) (h : (escL l).2.2 = 0) : ∃ n : Nat, (escL l).2.1 = n ∧ 2 ≤ n ∧ n ≤ l.length + 1 := by
  match l with
  | [] => simp [escL] at h
  | c :: t =>
    simp only [escL] at h ⊢
    repeat' split at h
    · rename_i h1; rw [if_pos h1]; exact ⟨2, rfl, by omega, by simp⟩
    · rename_i h1 h2; rw [if_neg h1, if_pos h2]; exact ⟨2, rfl, by omega, by simp⟩
    · rename_i h1 h2 h3; rw [if_neg h1, if_neg h2, if_pos h3]; exact ⟨2, rfl, by omega, by simp⟩
    · rename_i h1 h2 h3 h4
      rw [if_neg h1, if_neg h2, if_neg h3, if_pos h4]
      obtain ⟨h5, h6⟩ := hex_len t h
      exact ⟨4, h5, by omega, by simp; omega⟩
    · simp at h

/-- A string's bytes from behind its quote on: the bytes, the place behind it (or that of the fault), the error. -/
def unqL : Nat → List UInt8 → List Int → Nat → Nat → ByteArray × Int × Int
  | 0, _, _, _, _ => (B [], 0, 52)
  | _ + 1, [], _, _, frm => (B [], frm, 52)
  | f + 1, c :: t, acc, pos, frm =>
    if c.toNat = 34 then (strOfNums acc, pos + 1, 0)
    else if c.toNat < 32 ∨ 126 < c.toNat then (B [], pos, 50)
    else if c.toNat = 92 then
      if (escL t).2.2 = 0 then (if acc.length = 256 then (B [], frm, 51) else unqL f ((c :: t).drop (escL t).2.1.toNat) (acc ++ [(escL t).1]) (pos + (escL t).2.1.toNat) frm)
      else if (escL t).2.2 = 52 then (B [], frm, 52) else (B [], pos, (escL t).2.2)
    else if acc.length = 256 then (B [], frm, 51)
    else unqL f t (acc ++ [(c.toNat : Int)]) (pos + 1) frm

theorem unq_ev (l : List UInt8) (hl : l.length ≤ 140737488355328) (frm : Nat) : ∀ (f : Nat) (rest pre : List UInt8) (acc : List Int), pre ++ rest = l → rest.length < f → acc.length ≤ 256 →
    Ev (fun k => token_unquote.l0 k (B l) (frm : Int) acc (pre.length : Int)) (unqL f rest acc pre.length frm) := by
  intro f
  induction f with
  | zero => intro rest pre acc _ h; omega
  | succ f ih =>
    intro rest pre acc hp hf hacc
    have hlen : pre.length + rest.length = l.length := by rw [← hp]; simp
    cases rest with
    | nil =>
      refine Ev.step (f := fun _ => some (B [], (frm : Int), 52)) ?_ (Ev.now _)
      intro k
      simp only [token_unquote.l0]
      rw [if_neg (by simp at hlen; rw [B_size]; omega)]
      rfl
    | cons c t =>
      simp only [List.length_cons] at hlen hf
      have hb : bt (B l) (pre.length : Int) = (c.toNat : Int) := by rw [← hp, bt_mid]
      have hc := c.toNat_lt
      have hext : (B l).extract ((pre.length : Int) + 1).toNat (B l).size = B t := by
        have := B_ext_rest (pre ++ [c]) t
        rw [show pre ++ [c] ++ t = l by rw [← hp]; simp] at this
        rw [show ((pre.length : Int) + 1).toNat = (pre ++ [c]).length by simp]
        exact this
      have w1 : wrap64 ((pre.length : Int) + 1) = (pre.length : Int) + 1 := w64 (by omega) (by omega)
      by_cases h34 : c.toNat = 34
      · refine Ev.step (f := fun _ => some (strOfNums acc, (pre.length : Int) + 1, 0)) ?_ ?_
        · intro k
          simp only [token_unquote.l0]
          rw [if_pos (by rw [B_size]; omega), if_pos (by omega), hb, if_pos (by omega), w1]
        · simp only [unqL, if_pos h34]
          exact Ev.now _
      · have step1 : ∀ r, Ev (fun k => token_unquote.j1 k (B l) (frm : Int) acc (pre.length : Int) (c.toNat : Int) 1 (decide (c.toNat < 32 ∨ 126 < c.toNat))) r → Ev (fun k => token_unquote.l0 k (B l) (frm : Int) acc (pre.length : Int)) r := by
          intro r hr
          refine Ev.step ?_ hr
          intro k
          simp only [token_unquote.l0]
          rw [if_pos (by rw [B_size]; omega), if_pos (by omega), hb, if_neg (by omega)]
          by_cases h32 : c.toNat < 32
          · rw [if_pos (by omega)]
            simp [h32]
          · rw [if_neg (by omega)]
            congr 1
            rw [Bool.eq_iff_iff]
            simp only [decide_eq_true_eq, gt_iff_lt]
            omega
        refine step1 _ ?_
        simp only [unqL, if_neg h34]
        by_cases hbad : c.toNat < 32 ∨ 126 < c.toNat
        · rw [if_pos hbad]
          refine Ev.step (f := fun _ => some (B [], (pre.length : Int), 50)) ?_ (Ev.now _)
          intro k
          simp only [token_unquote.j1, hbad, decide_true, if_true]
          rfl
        · rw [if_neg hbad]
          by_cases h92 : c.toNat = 92
          · rw [if_pos h92]
            refine Ev.step (f := fun k => (token_escape.f k (B t)).bind fun e => if e.2.2 = 0 then (if (acc.length : Int) = 256 then some (B [], (frm : Int), 51) else (if acc.length < 140737488355328 then token_unquote.l0 k (B l) (frm : Int) (acc ++ [e.1]) (wrap64 ((pre.length : Int) + e.2.1)) else none)) else (if e.2.2 = 52 then some (B [], (frm : Int), e.2.2) else some (B [], (pre.length : Int), e.2.2))) ?_ ?_
            · intro k
              simp only [token_unquote.j1, hbad, decide_false]
              rw [if_neg (by simp), if_pos (by omega), w1, if_pos (by omega), if_pos (by rw [B_size]; omega), hext]
              rfl
            · refine Ev.bind (escape_ev t (by omega)) ?_
              by_cases he : (escL t).2.2 = 0
              · rw [if_pos he]
                simp only [if_pos he]
                by_cases hq : acc.length = 256
                · rw [if_pos hq]
                  simp only [show ((acc.length : Int) = 256) = True from eq_true (by omega), if_true]
                  exact Ev.now _
                · rw [if_neg hq]
                  obtain ⟨n, hn, h2, h3⟩ := esc_len t he
                  rw [hn, Int.toNat_natCast]
                  simp only [show ((acc.length : Int) = 256) = False from eq_false (by omega), if_false, show (acc.length < 140737488355328) = True from eq_true (by omega), if_true]
                  rw [w64 (by omega) (by omega)]
                  have hlt : ((c :: t).take n).length = n := by simp; omega
                  have := ih ((c :: t).drop n) (pre ++ (c :: t).take n) (acc ++ [(escL t).1]) (by rw [List.append_assoc, List.take_append_drop, hp]) (by simp; omega) (by simp; omega)
                  rw [show ((pre ++ (c :: t).take n).length : Int) = (pre.length : Int) + (n : Int) by rw [List.length_append, hlt]; omega, show (pre ++ (c :: t).take n).length = pre.length + n by rw [List.length_append, hlt]] at this
                  exact this
              · rw [if_neg he]
                simp only [if_neg he]
                by_cases h52 : (escL t).2.2 = 52
                · rw [if_pos h52]
                  simp only [if_pos h52]
                  rw [h52]
                  exact Ev.now _
                · rw [if_neg h52]
                  simp only [if_neg h52]
                  exact Ev.now _
          · rw [if_neg h92]
            by_cases hq : acc.length = 256
            · rw [if_pos hq]
              refine Ev.step (f := fun _ => some (B [], (frm : Int), 51)) ?_ (Ev.now _)
              intro k
              simp only [token_unquote.j1, hbad, decide_false]
              rw [if_neg (by simp), if_neg (by omega), if_pos (by omega)]
              rfl
            · rw [if_neg hq]
              have := ih t (pre ++ [c]) (acc ++ [(c.toNat : Int)]) (by rw [← hp]; simp) (by omega) (by simp; omega)
              rw [show ((pre ++ [c]).length : Int) = (pre.length : Int) + 1 by simp, show (pre ++ [c]).length = pre.length + 1 by simp] at this
              refine Ev.step ?_ this
              intro k
              simp only [token_unquote.j1, hbad, decide_false]
              rw [if_neg (by simp), if_neg (by omega), if_neg (by omega), if_pos (by omega), w1]

theorem unq_end : ∀ (f : Nat) (rest : List UInt8) (acc : List Int) (pos frm : Nat), rest.length < f → (unqL f rest acc pos frm).2.2 = 0 → ∃ m : Nat, (unqL f rest acc pos frm).2.1 = m ∧ pos < m ∧ m ≤ pos + rest.length := by
  intro f
  induction f with
  | zero => intro rest acc pos frm h; omega
  | succ f ih =>
    intro rest acc pos frm hf h
    cases rest with
    | nil => simp [unqL] at h
    | cons c t =>
      simp only [List.length_cons] at hf ⊢
      simp only [unqL] at h ⊢
      by_cases h34 : c.toNat = 34
      · rw [if_pos h34]; exact ⟨pos + 1, by simp, by omega, by omega⟩
      · rw [if_neg h34] at h ⊢
        by_cases hbad : c.toNat < 32 ∨ 126 < c.toNat
        · rw [if_pos hbad] at h; simp at h
        · rw [if_neg hbad] at h ⊢
          by_cases h92 : c.toNat = 92
          · rw [if_pos h92] at h ⊢
            by_cases he : (escL t).2.2 = 0
            · rw [if_pos he] at h ⊢
              by_cases hq : acc.length = 256
              · rw [if_pos hq] at h; simp at h
              · rw [if_neg hq] at h ⊢
                obtain ⟨n, hn, h2, h3⟩ := esc_len t he
                rw [hn, Int.toNat_natCast] at h ⊢
                obtain ⟨m, e1, e2, e3⟩ := ih _ _ _ _ (by simp; omega) h
                exact ⟨m, e1, by omega, by simp at e3; omega⟩
            · rw [if_neg he] at h
              split at h
              · simp at h
              · exact absurd h he
          · rw [if_neg h92] at h ⊢
            by_cases hq : acc.length = 256
            · rw [if_pos hq] at h; simp at h
            · rw [if_neg hq] at h ⊢
              obtain ⟨m, e1, e2, e3⟩ := ih _ _ _ _ (by omega) h
              exact ⟨m, e1, by omega, by omega⟩
end Go.Proofs.YthmcapdakplhdaaDoor.Pu

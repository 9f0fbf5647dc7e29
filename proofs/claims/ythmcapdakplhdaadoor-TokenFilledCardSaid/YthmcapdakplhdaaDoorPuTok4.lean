import Derived.Test.YthmcapdakplhdaaDoorPuTok3
namespace Go.Proofs.YthmcapdakplhdaaDoor.Pu
open Go.RowKit Go.Proofs.YthmcapdakplhdaaDoor.Pr Go.Proofs.YthmcapdakplhdaaDoorW.PrintWords Go.Proofs.YthmcapdakplhdaaDoorW.PrintLast Go.Proofs.YthmcapdakplhdaaDoorW.PrintMore
set_option linter.unusedVariables false
set_option linter.unusedSimpArgs false

theorem takeWhile_le {α : Type} (p : α → Bool) (l : List α) : (l.takeWhile p).length ≤ l.length := by
  induction l with
  | nil => simp
  | cons a t ih => simp only [List.takeWhile_cons]; split <;> simp <;> omega
theorem dropWhile_le {α : Type} (p : α → Bool) (l : List α) : (l.dropWhile p).length ≤ l.length := by
  induction l with
  | nil => simp
  | cons a t ih => simp only [List.dropWhile_cons]; split <;> simp <;> omega
theorem signL_le (l : List UInt8) : signL l ≤ l.length ∧ signL l ≤ 2 := by
  cases l with
  | nil => simp [signL]
  | cons c t =>
    simp only [signL, List.length_cons]
    repeat' split
    all_goals first | omega | (rename_i h; cases t <;> simp_all)

/-- Not a line's end. -/
def notLf (c : UInt8) : Bool := c.toNat != 10
/-- How long the word or number is with which a text begins. -/
def runL (l : List UInt8) : Nat := (l.takeWhile goesB).length
theorem run_ev2 (v : Value) (l : List UInt8) (hl : l.length ≤ 140737488355328) : Ev (fun k => token_run.f k (B l) v) ((runL l : Nat) : Int) := by
  unfold runL
  exact run_ev v l hl
theorem runL_le (l : List UInt8) : runL l ≤ l.length := takeWhile_le _ _

/-- token.Scan on lists: from a place on, behind the tokens that are there. -/
def scanL : Nat → List UInt8 → List S44 → Nat → List S44 × Int × Int
  | 0, _, _, _ => ([], 0, 0)
  | _ + 1, [], out, pos => (out ++ [⟨5, B [], pos⟩], 0, 0)
  | f + 1, c :: t, out, pos =>
    if (c :: t).take 2 == [45, 45] then scanL f ((c :: t).dropWhile notLf) out (pos + ((c :: t).length - ((c :: t).dropWhile notLf).length))
    else if begL c = 1 then scanL f t out (pos + 1)
    else if begL c = 2 then (if 32 < runL (c :: t) then ([], pos, 51) else scanL f ((c :: t).drop (runL (c :: t))) (out ++ [⟨1, B ((c :: t).take (runL (c :: t))), pos⟩]) (pos + runL (c :: t)))
    else if begL c = 3 then (if isIntB ((c :: t).take (runL (c :: t))) = true then scanL f ((c :: t).drop (runL (c :: t))) (out ++ [⟨2, B ((c :: t).take (runL (c :: t))), pos⟩]) (pos + runL (c :: t)) else ([], pos, 51))
    else if begL c = 4 then
      (if (unqL (t.length + 1) t [] (pos + 1) pos).2.2 = 0 then scanL f ((c :: t).drop ((unqL (t.length + 1) t [] (pos + 1) pos).2.1.toNat - pos)) (out ++ [⟨3, (unqL (t.length + 1) t [] (pos + 1) pos).1, pos⟩]) (unqL (t.length + 1) t [] (pos + 1) pos).2.1.toNat
       else ([], (unqL (t.length + 1) t [] (pos + 1) pos).2.1, (unqL (t.length + 1) t [] (pos + 1) pos).2.2))
    else if begL c = 5 then scanL f ((c :: t).drop (signL (c :: t))) (out ++ [⟨4, B ((c :: t).take (signL (c :: t))), pos⟩]) (pos + signL (c :: t))
    else ([], pos, 50)

/-- token.Scan of a text's bytes. -/
def scan (l : List UInt8) : List S44 × Int × Int := if 4096 < l.length then ([], 0, 2) else scanL (l.length + 1) l [] 0

theorem comment_ev (l : List UInt8) (hl : l.length ≤ 4096) (out : List S44) (r : List S44 × Int × Int) : ∀ (rest pre : List UInt8), pre ++ rest = l →
    Ev (fun k => token_Scan.l0 k (B l) out ((pre.length + (rest.length - (rest.dropWhile notLf).length) : Nat) : Int)) r → Ev (fun k => token_Scan.l1 k (B l) out (pre.length : Int)) r := by
  intro rest
  induction rest with
  | nil =>
    intro pre hp h
    refine Ev.step ?_ (by simpa using h)
    intro k
    simp only [token_Scan.l1]
    rw [if_neg (by rw [B_size, ← hp]; simp)]
  | cons c t ih =>
    intro pre hp h
    have hlen : pre.length < l.length := by rw [← hp]; simp
    have hb : bt (B l) (pre.length : Int) = (c.toNat : Int) := by rw [← hp, bt_mid]
    by_cases h10 : c.toNat = 10
    · have hn : notLf c = false := by unfold notLf; rw [h10]; rfl
      have e : (c :: t).dropWhile notLf = c :: t := by rw [List.dropWhile_cons, hn]; rfl
      rw [e, Nat.sub_self, Nat.add_zero] at h
      refine Ev.step ?_ h
      intro k
      simp only [token_Scan.l1]
      rw [if_pos (by rw [B_size]; omega), if_pos (by omega), hb, if_pos (by omega)]
    · have hn : notLf c = true := by unfold notLf; simpa using h10
      have e : (c :: t).dropWhile notLf = t.dropWhile notLf := by rw [List.dropWhile_cons, hn]; rfl
      have hd := dropWhile_le notLf t
      rw [e] at h
      have := ih (pre ++ [c]) (by rw [← hp]; simp) (by
        rw [show (pre ++ [c]).length + (t.length - (t.dropWhile notLf).length) = pre.length + ((c :: t).length - (t.dropWhile notLf).length) by rw [List.length_append, List.length_cons, List.length_cons, List.length_nil]; omega]
        exact h)
      rw [show ((pre ++ [c]).length : Int) = (pre.length : Int) + 1 by simp] at this
      refine Ev.step ?_ this
      intro k
      simp only [token_Scan.l1]
      rw [if_pos (by rw [B_size]; omega), if_pos (by omega), hb, if_neg (by omega), w64 (by omega) (by omega)]

theorem isInt_f (l : List UInt8) (h : l.length ≤ 140737488355328) : token_isInt.f (B l) = some (isIntB l) := by
  unfold token_isInt.f
  rw [if_pos (by simpa using h)]
  rfl

theorem beg_goesN : ∀ n : Nat, n < 256 → begN n = 2 ∨ begN n = 3 → goesN n = true := by decide +kernel
theorem beg_goes (c : UInt8) (h : begL c = 2 ∨ begL c = 3) : goesB c = true := beg_goesN _ c.toNat_lt h
theorem beg_signN : ∀ n : Nat, n < 256 → begN n = 5 → signN n = true := by decide +kernel
theorem beg_sign (c : UInt8) (h : begL c = 5) : signN c.toNat = true := beg_signN _ c.toNat_lt h
theorem signL_pos (c : UInt8) (t : List UInt8) (h : signN c.toNat = true) : 1 ≤ signL (c :: t) := by
  simp only [signL]
  split
  · split <;> omega
  · split
    · omega
    · split
      · split <;> omega
      · simp [signN] at h
        omega

set_option maxRecDepth 100000 in
set_option maxHeartbeats 1000000 in
theorem scanL_ev (l : List UInt8) (hl : l.length ≤ 4096) : ∀ (f : Nat) (rest pre : List UInt8) (out : List S44), pre ++ rest = l → rest.length < f → out.length ≤ pre.length →
    Ev (fun k => token_Scan.l0 k (B l) out (pre.length : Int)) (scanL f rest out pre.length) := by
  intro f
  induction f with
  | zero => intro rest pre out _ h; omega
  | succ f ih =>
    intro rest pre out hp hf hout
    have hlen : pre.length + rest.length = l.length := by rw [← hp]; simp
    cases rest with
    | nil =>
      refine Ev.step (f := fun _ => some (out ++ [⟨5, B [], (pre.length : Int)⟩], 0, 0)) ?_ (Ev.now _)
      intro k
      simp only [List.length_nil, Nat.add_zero] at hlen
      simp only [token_Scan.l0]
      rw [if_neg (by rw [B_size]; omega), if_pos (by omega), B_size, hlen]
      rfl
    | cons c t =>
      simp only [List.length_cons] at hlen hf
      have hb : bt (B l) (pre.length : Int) = (c.toNat : Int) := by rw [← hp, bt_mid]
      have hext : (B l).extract ((pre.length : Int)).toNat (B l).size = B (c :: t) := by
        rw [Int.toNat_natCast, ← hp]
        exact B_ext_rest pre (c :: t)
      have hpre : strings_HasPrefix.f (B (c :: t)) (⟨#[45, 45]⟩ : ByteArray) = some ((c :: t).take 2 == [45, 45]) := hasPrefix (c :: t) [45, 45]
      have go : ∀ (n : Nat) (x : S44), 1 ≤ n → n ≤ (c :: t).length → Ev (fun k => token_Scan.l0 k (B l) (out ++ [x]) ((pre.length : Int) + (n : Int))) (scanL f ((c :: t).drop n) (out ++ [x]) (pre.length + n)) := by
        intro n x h1 h2
        have hlt : ((c :: t).take n).length = n := by rw [List.length_take]; omega
        have := ih ((c :: t).drop n) (pre ++ (c :: t).take n) (out ++ [x]) (by rw [List.append_assoc, List.take_append_drop, hp]) (by simp only [List.length_drop, List.length_cons]; omega) (by simp only [List.length_append, hlt, List.length_singleton]; omega)
        rw [show (pre ++ (c :: t).take n).length = pre.length + n by rw [List.length_append, hlt]] at this
        rw [show ((pre.length + n : Nat) : Int) = (pre.length : Int) + (n : Int) by omega] at this
        exact this
      have hcut : ∀ n : Nat, (B l).extract ((pre.length : Int)).toNat ((pre.length : Int) + (n : Int)).toNat = B ((c :: t).take n) := by
        intro n
        rw [Int.toNat_natCast, show ((pre.length : Int) + (n : Int)).toNat = pre.length + n by omega, ← hp]
        exact B_ext_mid pre (c :: t) n
      by_cases hcom : (c :: t).take 2 == [45, 45]
      · have hne : notLf c = true := by
          have : c = 45 := by cases t <;> simp_all
          rw [this]; rfl
        have e : ((c :: t).dropWhile notLf) = t.dropWhile notLf := by rw [List.dropWhile_cons, hne]; rfl
        have hd := dropWhile_le notLf t
        refine Ev.step (f := fun k => token_Scan.l1 k (B l) out (pre.length : Int)) ?_ ?_
        · intro k
          simp only [token_Scan.l0]
          rw [if_pos (by rw [B_size]; omega), if_pos (by omega), if_pos (by rw [B_size]; omega), hext, hpre]
          simp only [Option.bind_some, hcom, if_true]
        · simp only [scanL, hcom, if_true]
          refine comment_ev l hl out _ (c :: t) pre hp ?_
          have hsuf : ∃ a, c :: t = a ++ (c :: t).dropWhile notLf := ⟨(c :: t).takeWhile notLf, (List.takeWhile_append_dropWhile).symm⟩
          obtain ⟨a, ha⟩ := hsuf
          have hal : a.length = (c :: t).length - ((c :: t).dropWhile notLf).length := by have := congrArg List.length ha; rw [List.length_append] at this; omega
          have := ih ((c :: t).dropWhile notLf) (pre ++ a) out (by rw [List.append_assoc, ← ha, hp]) (by rw [e]; omega) (by rw [List.length_append]; omega)
          rw [show (pre ++ a).length = pre.length + ((c :: t).length - ((c :: t).dropWhile notLf).length) by rw [List.length_append, hal]] at this
          exact this
      · have hcom' : ((c :: t).take 2 == [45, 45]) = false := by simpa using hcom
        have hmono : ∀ k, LeO (token_Scan.l0 k (B l) out (pre.length : Int)) (token_Scan.l0 (k + 1) (B l) out (pre.length : Int)) := fun k => (token_Scan.mono_l k).1 _ _ _
        have hsz : ((B l).size : Int) = (l.length : Int) := by rw [B_size]
        have open_ : ∀ k, (token_begins.f k (c.toNat : Int)) = some (begL c) → ∀ r, (token_Scan.l0 (k + 1) (B l) out (pre.length : Int) = some r ↔ (if begL c = 1 then token_Scan.l0 k (B l) out ((pre.length : Int) + 1) else if begL c = 2 then ((token_run.f k (B (c :: t)) (.func (.func 48) #[] #[])).bind fun n => if n > 32 then some ([], (pre.length : Int), 51) else if (pre.length : Int) ≤ wrap64 ((pre.length : Int) + n) then (if wrap64 ((pre.length : Int) + n) ≤ (l.length : Int) then (token_Scan.l0 k (B l) (out ++ [⟨1, (B l).extract ((pre.length : Int)).toNat (wrap64 ((pre.length : Int) + n)).toNat, (pre.length : Int)⟩]) (wrap64 ((pre.length : Int) + n))) else none) else none) else if begL c = 3 then ((token_run.f k (B (c :: t)) (.func (.func 48) #[] #[])).bind fun n => if (pre.length : Int) ≤ wrap64 ((pre.length : Int) + n) then (if wrap64 ((pre.length : Int) + n) ≤ (l.length : Int) then ((token_isInt.f ((B l).extract ((pre.length : Int)).toNat (wrap64 ((pre.length : Int) + n)).toNat)).bind fun b => if b = true then (token_Scan.l0 k (B l) (out ++ [⟨2, (B l).extract ((pre.length : Int)).toNat (wrap64 ((pre.length : Int) + n)).toNat, (pre.length : Int)⟩]) (wrap64 ((pre.length : Int) + n))) else some ([], (pre.length : Int), 51)) else none) else none) else if begL c = 4 then ((token_unquote.f k (B l) (pre.length : Int)).bind fun u => if u.2.2 = 0 then (token_Scan.l0 k (B l) (out ++ [⟨3, u.1, (pre.length : Int)⟩]) u.2.1) else some ([], u.2.1, u.2.2)) else if begL c = 5 then ((token_signAt.f k (B (c :: t))).bind fun n => if (pre.length : Int) ≤ wrap64 ((pre.length : Int) + n) then (if wrap64 ((pre.length : Int) + n) ≤ (l.length : Int) then (token_Scan.l0 k (B l) (out ++ [⟨4, (B l).extract ((pre.length : Int)).toNat (wrap64 ((pre.length : Int) + n)).toNat, (pre.length : Int)⟩]) (wrap64 ((pre.length : Int) + n))) else none) else none) else some ([], (pre.length : Int), 50)) = some r) := by
          intro k hk r
          have hout2 : out.length < 4398046511104 := by omega
          simp only [token_Scan.l0]
          rw [if_pos (by rw [hsz]; omega), if_pos (by omega), if_pos (by rw [hsz]; omega), hext, hpre, hb]
          simp only [Option.bind_some, hcom', hk, if_pos hout2, hsz]
          rw [w64 (n := (pre.length : Int) + 1) (by omega) (by omega)]
          simp
        obtain ⟨K1, h1⟩ := begins_ev c
        simp only [scanL, hcom', Bool.false_eq_true, if_false]
        by_cases b1 : begL c = 1
        · as_aux_lemma =>
          obtain ⟨K2, h2⟩ := ih t (pre ++ [c]) out (by rw [← hp]; simp) (by omega) (by simp; omega)
          rw [show ((pre ++ [c]).length : Int) = (pre.length : Int) + 1 by simp, show (pre ++ [c]).length = pre.length + 1 by simp] at h2
          refine Ev.of hmono (k := K1 + K2 + 1) ((open_ (K1 + K2) (h1 (K1 + K2) (by omega)) _).2 ?_)
          rw [if_pos b1, if_pos b1]
          exact h2 (K1 + K2) (by omega)
        rw [if_neg b1]
        have hrl := runL_le (c :: t)
        simp only [List.length_cons] at hrl
        have hr1 : begL c = 2 ∨ begL c = 3 → 1 ≤ runL (c :: t) := by
          intro h
          have hg : goesB c = true := beg_goes c h
          simp [runL, hg]
        obtain ⟨K3, h3⟩ := run_ev2 (.func (.func 48) #[] #[]) (c :: t) (by simp; omega)
        replace h3 : ∀ k, K3 ≤ k → token_run.f k (B (c :: t)) (.func (.func 48) #[] #[]) = some ((runL (c :: t) : Nat) : Int) := h3
        by_cases b2 : begL c = 2
        · as_aux_lemma =>
          rw [if_pos b2]
          have hn := hr1 (.inl b2)
          by_cases h32 : 32 < runL (c :: t)
          · rw [if_pos h32]
            refine Ev.of hmono (k := K1 + K3 + 1) ((open_ (K1 + K3) (h1 (K1 + K3) (by omega)) _).2 ?_)
            rw [if_neg b1, if_pos b2, h3 (K1 + K3) (by omega)]
            rw [Option.bind_some]
            rw [if_pos (by show ((runL (c :: t) : Nat) : Int) > 32; omega)]
          · rw [if_neg h32]
            obtain ⟨K2, h2⟩ := go (runL (c :: t)) ⟨1, B ((c :: t).take (runL (c :: t))), pre.length⟩ hn (by simp; omega)
            refine Ev.of hmono (k := K1 + K2 + K3 + 1) ((open_ (K1 + K2 + K3) (h1 (K1 + K2 + K3) (by omega)) _).2 ?_)
            rw [if_neg b1, if_pos b2, h3 (K1 + K2 + K3) (by omega)]
            rw [Option.bind_some]
            rw [if_neg (by omega), w64 (by omega) (by omega), if_pos (by omega), if_pos (by omega), hcut]
            exact h2 (K1 + K2 + K3) (by omega)
        rw [if_neg b2]
        by_cases b3 : begL c = 3
        · as_aux_lemma =>
          rw [if_pos b3]
          have hn := hr1 (.inr b3)
          have hi := isInt_f ((c :: t).take (runL (c :: t))) (by have h5 := List.length_take_le (runL (c :: t)) (c :: t); omega)
          by_cases hb3 : isIntB ((c :: t).take (runL (c :: t))) = true
          · rw [if_pos hb3]
            obtain ⟨K2, h2⟩ := go (runL (c :: t)) ⟨2, B ((c :: t).take (runL (c :: t))), pre.length⟩ hn (by simp; omega)
            refine Ev.of hmono (k := K1 + K2 + K3 + 1) ((open_ (K1 + K2 + K3) (h1 (K1 + K2 + K3) (by omega)) _).2 ?_)
            rw [if_neg b1, if_neg b2, if_pos b3, h3 (K1 + K2 + K3) (by omega)]
            rw [Option.bind_some]
            rw [w64 (by omega) (by omega), if_pos (by omega), if_pos (by omega), hcut, hi]
            rw [Option.bind_some]
            rw [if_pos hb3]
            exact h2 (K1 + K2 + K3) (by omega)
          · rw [if_neg hb3]
            refine Ev.of hmono (k := K1 + K3 + 1) ((open_ (K1 + K3) (h1 (K1 + K3) (by omega)) _).2 ?_)
            rw [if_neg b1, if_neg b2, if_pos b3, h3 (K1 + K3) (by omega)]
            rw [Option.bind_some]
            rw [w64 (by omega) (by omega), if_pos (by omega), if_pos (by omega), hcut, hi]
            rw [Option.bind_some]
            rw [if_neg hb3]
        rw [if_neg b3]
        by_cases b4 : begL c = 4
        · as_aux_lemma =>
          rw [if_pos b4]
          obtain ⟨K3, h3⟩ := unq_ev l (by omega) pre.length (t.length + 1) t (pre ++ [c]) [] (by rw [← hp]; simp) (by omega) (by simp)
          rw [show ((pre ++ [c]).length : Int) = (pre.length : Int) + 1 by simp, show (pre ++ [c]).length = pre.length + 1 by simp] at h3
          have h4 : ∀ k, K3 ≤ k → token_unquote.f k (B l) (pre.length : Int) = some (unqL (t.length + 1) t [] (pre.length + 1) pre.length) := by
            intro k hk
            unfold token_unquote.f
            rw [w64 (by omega) (by omega)]
            exact h3 k hk
          by_cases he : (unqL (t.length + 1) t [] (pre.length + 1) pre.length).2.2 = 0
          · rw [if_pos he]
            obtain ⟨m, e1, e2, e3⟩ := unq_end _ _ _ _ _ (Nat.lt_succ_self _) he
            obtain ⟨K2, h2⟩ := go (m - pre.length) ⟨3, (unqL (t.length + 1) t [] (pre.length + 1) pre.length).1, pre.length⟩ (by omega) (by simp; omega)
            refine Ev.of hmono (k := K1 + K2 + K3 + 1) ((open_ (K1 + K2 + K3) (h1 (K1 + K2 + K3) (by omega)) _).2 ?_)
            rw [if_neg b1, if_neg b2, if_neg b3, if_pos b4, h4 (K1 + K2 + K3) (by omega)]
            rw [Option.bind_some]
            rw [if_pos he, e1, Int.toNat_natCast]
            have := h2 (K1 + K2 + K3) (by omega)
            rw [show (pre.length : Int) + ((m - pre.length : Nat) : Int) = (m : Int) by omega, show pre.length + (m - pre.length) = m by omega] at this
            exact this
          · rw [if_neg he]
            refine Ev.of hmono (k := K1 + K3 + 1) ((open_ (K1 + K3) (h1 (K1 + K3) (by omega)) _).2 ?_)
            rw [if_neg b1, if_neg b2, if_neg b3, if_pos b4, h4 (K1 + K3) (by omega)]
            rw [Option.bind_some]
            rw [if_neg he]
        rw [if_neg b4]
        by_cases b5 : begL c = 5
        · as_aux_lemma =>
          rw [if_pos b5]
          have hs1 : 1 ≤ signL (c :: t) := signL_pos c t (beg_sign c b5)
          have hs2 := signL_le (c :: t)
          simp only [List.length_cons] at hs2
          obtain ⟨K3, h3⟩ := signAt_ev (c :: t)
          replace h3 : ∀ k, K3 ≤ k → token_signAt.f k (B (c :: t)) = some ((signL (c :: t) : Nat) : Int) := h3
          obtain ⟨K2, h2⟩ := go (signL (c :: t)) ⟨4, B ((c :: t).take (signL (c :: t))), pre.length⟩ hs1 (by simp; omega)
          refine Ev.of hmono (k := K1 + K2 + K3 + 1) ((open_ (K1 + K2 + K3) (h1 (K1 + K2 + K3) (by omega)) _).2 ?_)
          rw [if_neg b1, if_neg b2, if_neg b3, if_neg b4, if_pos b5, h3 (K1 + K2 + K3) (by omega)]
          rw [Option.bind_some]
          rw [w64 (by omega) (by omega), if_pos (by omega), if_pos (by omega), hcut]
          exact h2 (K1 + K2 + K3) (by omega)
        · rw [if_neg b5]
          refine Ev.of hmono (k := K1 + 1) ((open_ (K1) (h1 (K1) (by omega)) _).2 ?_)
          rw [if_neg b1, if_neg b2, if_neg b3, if_neg b4, if_neg b5]

theorem scan_ev (l : List UInt8) : Ev (fun k => token_Scan.f k (B l)) (scan l) := by
  unfold scan
  by_cases h : 4096 < l.length
  · rw [if_pos h]
    exact Ev.congr (f := fun _ => some ([], 0, 2)) (fun k => by unfold token_Scan.f; rw [if_pos (by rw [B_size]; omega)]) (Ev.now _)
  · rw [if_neg h]
    exact Ev.congr (f := fun k => token_Scan.l0 k (B l) [] 0) (fun k => by unfold token_Scan.f; rw [if_neg (by rw [B_size]; omega)]) (scanL_ev l (by omega) _ l [] [] rfl (by omega) (by simp))
end Go.Proofs.YthmcapdakplhdaaDoor.Pu

import Derived.Test.YthhpeeckiggpaaaGreatDoorPvShow
import Derived.Test.YthhpeeckiggpaaaGreatDoorPrx7
namespace Go.Proofs.YthhpeeckiggpaaaGreatDoor.Pv
open Go.RowKit Go.Proofs.YthhpeeckiggpaaaGreatDoor.Pu Go.Proofs.YthhpeeckiggpaaaGreatDoor.Pr Go.Proofs.YthhpeeckiggpaaaGreatDoorW.PrintWords Go.Proofs.YthhpeeckiggpaaaGreatDoorW.PrintLast Go.Proofs.YthhpeeckiggpaaaGreatDoorW.PrintMore
set_option linter.unusedVariables false
set_option linter.unusedSimpArgs false

/-- One byte more of a number. -/
def gs (x : Int) (c : UInt8) : Int := if 48 ≤ c.toNat ∧ c.toNat ≤ 57 then IntKind.u64.wrap (IntKind.u64.wrap (x * 10) + (((c.toNat : Int) - 48) % 256)) else x
def gfin (l : List UInt8) (x : Int) : Int × Int × ByteArray × Bool := if l.head? = some 45 then (1, wrap64 (IntKind.u64.wrap (-x)), ⟨#[]⟩, false) else (1, wrap64 x, ⟨#[]⟩, false)
theorem g_loop (l : List UInt8) (hN : l.length ≤ 140737488351232) : ∀ (rest pre : List UInt8) (x : Int), pre ++ rest = l → Ev (fun k => refrainref1_guessed.l0 k (B l) x (pre.length : Int)) (gfin l (rest.foldl gs x)) := by
  intro rest
  induction rest with
  | nil =>
    intro pre x hp
    have hl : pre.length = l.length := by rw [← hp]; simp
    refine Ev.step (fun k => refrainref1_guessed.l0.eq_2 _ _ _ k) ?_
    simp only [if_neg (show ¬ (pre.length : Int) < ((B l).size : Int) by rw [B_size]; omega), List.foldl_nil]
    unfold gfin
    cases l with
    | nil => simp only [if_neg (show ¬ ((B []).size : Int) > 0 by rw [B_size]; simp)]; exact Ev.now _
    | cons c t =>
      have hb : bt (B (c :: t)) 0 = (c.toNat : Int) := bt_mid [] c t
      simp only [if_pos (show ((B (c :: t)).size : Int) > 0 by rw [B_size]; simp only [List.length_cons]; omega), if_pos (show 0 < ((B (c :: t)).size : Int) by rw [B_size]; simp only [List.length_cons]; omega), hb, List.head?_cons, Option.some.injEq]
      by_cases h : c = 45
      · subst h; rw [if_pos rfl]; exact Ev.now _
      · rw [if_neg h]
        have : ¬ (c.toNat : Int) = 45 := fun e => h (UInt8.toNat_inj.1 (by have : c.toNat = 45 := by omega
                                                                           rw [this]; rfl))
        simp only [if_neg this]
        exact Ev.now _
  | cons c t ih =>
    intro pre x hp
    have hlen : pre.length + (t.length + 1) = l.length := by rw [← hp]; simp
    have hb : bt (B l) (pre.length : Int) = (c.toNat : Int) := by rw [← hp]; exact bt_mid pre c t
    have hw : wrap64 ((pre.length : Int) + 1) = ((pre ++ [c]).length : Int) := by rw [w64 (by omega) (by omega)]; simp
    have nx := fun y => ih (pre ++ [c]) y (by rw [List.append_assoc]; exact hp)
    refine Ev.step (fun k => refrainref1_guessed.l0.eq_2 _ _ _ k) ?_
    simp only [if_pos (show (pre.length : Int) < ((B l).size : Int) by rw [B_size]; omega), if_pos (show (0 : Int) ≤ (pre.length : Int) by omega), hb, hw, List.foldl_cons]
    by_cases h1 : 48 ≤ c.toNat
    · by_cases h2 : c.toNat ≤ 57
      · simp only [if_pos (show (c.toNat : Int) ≥ 48 by omega), if_pos (show (c.toNat : Int) ≤ 57 by omega)]
        have e : gs x c = IntKind.u64.wrap (IntKind.u64.wrap (x * 10) + (((c.toNat : Int) - 48) % 256)) := if_pos ⟨h1, h2⟩
        rw [e]; exact nx _
      · simp only [if_pos (show (c.toNat : Int) ≥ 48 by omega), if_neg (show ¬ (c.toNat : Int) ≤ 57 by omega)]
        have e : gs x c = x := if_neg (by omega)
        rw [e]; exact nx _
    · simp only [if_neg (show ¬ (c.toNat : Int) ≥ 48 by omega)]
      have e : gs x c = x := if_neg (by omega)
      rw [e]; exact nx _
theorem gs_dec : ∀ (m u : Nat), u ≤ m → u ≤ 18446744073709551615 → (Lib.decDigits u).foldl gs 0 = (u : Int) := by
  intro m
  induction m with
  | zero =>
    intro u h1 h2
    have : u = 0 := by omega
    subst this
    rw [Lib.decDigits, dif_pos (by omega)]
    show gs 0 48 = 0
    unfold gs
    rw [if_pos (by decide), u64w (n := 0 * 10) (by omega) (by omega)]
    rfl
  | succ m ih =>
    intro u h1 h2
    have one : ∀ (x d : Nat), d < 10 → x * 10 + d ≤ 18446744073709551615 → gs (x : Int) (UInt8.ofNat (48 + d)) = ((x * 10 + d : Nat) : Int) := fun x d hd hx => by
      unfold gs
      rw [digc d hd, if_pos (by omega), u64w (n := (x : Int) * 10) (by omega) (by omega), u64w (by omega) (by omega)]
      omega
    rw [Lib.decDigits]
    by_cases hu : u < 10
    · rw [dif_pos hu]
      show gs 0 (UInt8.ofNat (48 + u)) = (u : Int)
      have := one 0 u hu (by omega)
      simpa using this
    · rw [dif_neg hu, List.foldl_append, ih (u / 10) (by omega) (by omega)]
      show gs ((u / 10 : Nat) : Int) (UInt8.ofNat (48 + u % 10)) = (u : Int)
      rw [one (u / 10) (u % 10) (by omega) (by omega)]
      omega
/-- What the reference guesses: a number in range; of a number's text: the number. -/
def gP (l : List UInt8) : Int × Int × ByteArray × Bool := gfin l (l.foldl gs 0)
theorem guessed_ev (l : List UInt8) (hN : l.length ≤ 140737488351232) : Ev (fun k => refrainref1_guessed.f k (B l)) (gP l) := g_loop l hN l [] 0 rfl
theorem gP_shape (l : List UInt8) : ∃ n, gP l = (1, n, ⟨#[]⟩, false) ∧ -9223372036854775808 ≤ n ∧ n ≤ 9223372036854775807 := by
  have hw : ∀ z, -9223372036854775808 ≤ wrap64 z ∧ wrap64 z ≤ 9223372036854775807 := fun z => by unfold wrap64; omega
  unfold gP gfin
  split
  · exact ⟨_, rfl, hw _⟩
  · exact ⟨_, rfl, hw _⟩
theorem gP_itoa (n : Int) (h0 : -9223372036854775808 ≤ n) (h1 : n ≤ 9223372036854775807) : gP (Lib.itoa n) = (1, n, ⟨#[]⟩, false) := by
  unfold gP Lib.itoa
  by_cases hn : n < 0
  · rw [if_pos hn, List.foldl_cons, show gs 0 45 = 0 from if_neg (by decide), gs_dec _ n.natAbs (Nat.le_refl _) (by omega)]
    unfold gfin
    rw [List.head?_cons, if_pos rfl]
    have : wrap64 (IntKind.u64.wrap (-(n.natAbs : Int))) = n := by rw [IntKind.wrap_u64]; unfold wrap64; omega
    rw [this]
  · rw [if_neg hn, gs_dec _ n.toNat (Nat.le_refl _) (by omega)]
    unfold gfin
    obtain ⟨c, r, e, a, b⟩ := dec_cons n.toNat
    rw [e, List.head?_cons, if_neg (by intro h; have := Option.some.inj h; subst this; revert a; decide), w64 (by omega) (by omega)]
    congr 1
    congr 1
    omega
/-- A hexadecimal digit read. -/
theorem nib_all : ∀ n : Nat, n < 256 → refrainref1_nibble.f 20 (n : Int) = some (if 48 ≤ n ∧ n ≤ 57 then (n : Int) - 48 else if 97 ≤ n ∧ n ≤ 102 then (n : Int) - 87 else 0) := by decide +kernel
theorem bt_nat (s : ByteArray) (i : Int) : ∃ n : Nat, n < 256 ∧ bt s i = (n : Int) := by
  unfold bt
  split
  · exact ⟨_, UInt8.toNat_lt _, rfl⟩
  · exact ⟨0, by omega, rfl⟩
theorem nib_ev (n : Nat) (h : n < 256) : Ev (fun k => refrainref1_nibble.f k (n : Int)) (if 48 ≤ n ∧ n ≤ 57 then (n : Int) - 48 else if 97 ≤ n ∧ n ≤ 102 then (n : Int) - 87 else 0) := Ev.of (fun k => refrainref1_nibble.mono _ k) (nib_all n h)
theorem nib_tot (s : ByteArray) (i : Int) : ∃ r, Ev (fun k => refrainref1_nibble.f k (bt s i)) r := by
  obtain ⟨n, h, e⟩ := bt_nat s i
  rw [e]
  exact ⟨_, nib_ev n h⟩
theorem hexd_all : ∀ n : Nat, n < 16 → (hexd n).toNat < 256 ∧ (if 48 ≤ (hexd n).toNat ∧ (hexd n).toNat ≤ 57 then ((hexd n).toNat : Int) - 48 else if 97 ≤ (hexd n).toNat ∧ (hexd n).toNat ≤ 102 then ((hexd n).toNat : Int) - 87 else 0) = (n : Int) := by decide +kernel
theorem nib_hex (n : Nat) (h : n < 16) : Ev (fun k => refrainref1_nibble.f k ((hexd n).toNat : Int)) (n : Int) := by
  obtain ⟨a, b⟩ := hexd_all n h
  have := nib_ev _ a
  rw [b] at this
  exact this
theorem unq_tot (s : ByteArray) (hs : s.size ≤ 1026) (h0 : 1 ≤ s.size) : ∀ (m i : Nat) (acc : List Int), s.size + 1 - i ≤ m → acc.length ≤ i → i ≤ 5000 → ∃ r, Ev (fun k => refrainref1_unquoted.l0 k s acc (i : Int)) (2, 0, r, false) := by
  have e1 : wrap64 ((s.size : Int) - 1) = (s.size : Int) - 1 := w64 (by omega) (by omega)
  have stop : ∀ (i : Nat) (acc : List Int), ¬ (i : Int) < (s.size : Int) - 1 → ∃ r, Ev (fun k => refrainref1_unquoted.l0 k s acc (i : Int)) (2, 0, r, false) := fun i acc h => by
    refine ⟨strOfNums acc, Ev.step (fun k => refrainref1_unquoted.l0.eq_2 _ _ _ k) ?_⟩
    simp only [e1, if_neg h]
    exact Ev.now _
  intro m
  induction m with
  | zero => intro i acc hm _ _; exact stop i acc (by omega)
  | succ m ih =>
    intro i acc hm ha hi
    by_cases hlt : (i : Int) < (s.size : Int) - 1
    · have w1 : wrap64 ((i : Int) + 1) = ((i + 1 : Nat) : Int) := by rw [w64 (by omega) (by omega)]; omega
      have one : ∀ x : Int, ∃ r, Ev (fun k => refrainref1_unquoted.l0 k s (acc ++ [x]) ((i + 1 : Nat) : Int)) (2, 0, r, false) := fun x => ih (i + 1) _ (by omega) (by simp; omega) (by omega)
      have two : ∀ x : Int, ∃ r, Ev (fun k => refrainref1_unquoted.l0 k s (acc ++ [x]) ((i + 2 : Nat) : Int)) (2, 0, r, false) := fun x => ih (i + 2) _ (by omega) (by simp; omega) (by omega)
      have four : ∀ x : Int, ∃ r, Ev (fun k => refrainref1_unquoted.l0 k s (acc ++ [x]) ((i + 4 : Nat) : Int)) (2, 0, r, false) := fun x => ih (i + 4) _ (by omega) (by simp; omega) (by omega)
      have w2 : wrap64 (((i + 1 : Nat) : Int) + 1) = ((i + 2 : Nat) : Int) := by rw [w64 (by omega) (by omega)]; omega
      have w3 : wrap64 (((i + 1 : Nat) : Int) + 2) = ((i + 3 : Nat) : Int) := by rw [w64 (by omega) (by omega)]; omega
      have w4 : wrap64 (((i + 3 : Nat) : Int) + 1) = ((i + 4 : Nat) : Int) := by rw [w64 (by omega) (by omega)]; omega
      have j1t : ∀ x : Int, ∃ r, Ev (fun k => refrainref1_unquoted.j1 k s acc (i : Int) x true) (2, 0, r, false) := fun x => by
        obtain ⟨r, h⟩ := one x
        refine ⟨r, Ev.step (fun k => refrainref1_unquoted.j1.eq_2 _ _ _ _ _ k) ?_⟩
        simp only [if_pos, if_pos (show acc.length < 140737488355328 by omega), w1]
        exact h
      by_cases h92 : bt s (i : Int) = 92
      · by_cases hf : ((i + 1 : Nat) : Int) ≥ (s.size : Int) - 1
        · obtain ⟨r, h⟩ := j1t (bt s (i : Int))
          refine ⟨r, Ev.step (fun k => refrainref1_unquoted.l0.eq_2 _ _ _ k) ?_⟩
          simp only [e1, if_pos hlt, if_pos (show (0 : Int) ≤ (i : Int) by omega), if_pos (show (i : Int) < (s.size : Int) by omega), if_pos h92, w1, decide_eq_true hf]
          exact h
        · have st : ∀ r, Ev (fun k => refrainref1_unquoted.j1 k s acc (i : Int) (bt s (i : Int)) false) (2, 0, r, false) → Ev (fun k => refrainref1_unquoted.l0 k s acc (i : Int)) (2, 0, r, false) := fun r h => by
            refine Ev.step (fun k => refrainref1_unquoted.l0.eq_2 _ _ _ k) ?_
            simp only [e1, if_pos hlt, if_pos (show (0 : Int) ≤ (i : Int) by omega), if_pos (show (i : Int) < (s.size : Int) by omega), if_pos h92, w1, decide_eq_false hf]
            exact h
          have st2 : ∀ f : Bool, ∃ r, Ev (fun k => refrainref1_unquoted.j2 k s acc ((i + 1 : Nat) : Int) (decide (((i + 3 : Nat) : Int) < (s.size : Int)) && f)) (2, 0, r, false) := fun f => by
            by_cases h3 : ((i + 3 : Nat) : Int) < (s.size : Int) ∧ f = true
            · obtain ⟨a, ea⟩ := nib_tot s ((i + 2 : Nat) : Int)
              obtain ⟨b, eb⟩ := nib_tot s ((i + 3 : Nat) : Int)
              obtain ⟨r, h⟩ := four ((wrap64 ((wrap64 (a * 16)) + b)) % 256)
              refine ⟨r, Ev.step (fun k => refrainref1_unquoted.j2.eq_2 _ _ _ _ k) ?_⟩
              simp only [decide_eq_true h3.1, h3.2, Bool.and_self, if_pos, w2, w3, if_pos (show (0 : Int) ≤ ((i + 2 : Nat) : Int) by omega), if_pos (show ((i + 2 : Nat) : Int) < (s.size : Int) by omega)]
              refine Ev.bind (f := fun k t => _) ea ?_
              simp only [if_pos (show (0 : Int) ≤ ((i + 3 : Nat) : Int) by omega), if_pos h3.1]
              refine Ev.bind (f := fun k t => _) eb ?_
              simp only [if_pos (show acc.length < 140737488355328 by omega), w4]
              exact h
            · obtain ⟨r, h⟩ := two (bt s ((i + 1 : Nat) : Int))
              have hfalse : (decide (((i + 3 : Nat) : Int) < (s.size : Int)) && f) = false := by
                rw [← Bool.not_eq_true]
                intro e
                exact h3 (by simpa using e)
              refine ⟨r, Ev.step (fun k => refrainref1_unquoted.j2.eq_2 _ _ _ _ k) ?_⟩
              simp only [hfalse, Bool.false_eq_true, if_false, if_pos (show (0 : Int) ≤ ((i + 1 : Nat) : Int) by omega), if_pos (show ((i + 1 : Nat) : Int) < (s.size : Int) by omega), if_pos (show acc.length < 140737488355328 by omega), w2]
              exact h
          by_cases b110 : bt s ((i + 1 : Nat) : Int) = 110
          · obtain ⟨r, h⟩ := two 10
            refine ⟨r, st r (Ev.step (fun k => refrainref1_unquoted.j1.eq_2 _ _ _ _ _ k) ?_)⟩
            simp only [Bool.false_eq_true, if_false, w1, if_pos (show (0 : Int) ≤ ((i + 1 : Nat) : Int) by omega), if_pos (show ((i + 1 : Nat) : Int) < (s.size : Int) by omega), if_pos b110, if_pos (show acc.length < 140737488355328 by omega), w2]
            exact h
          by_cases b116 : bt s ((i + 1 : Nat) : Int) = 116
          · obtain ⟨r, h⟩ := two 9
            refine ⟨r, st r (Ev.step (fun k => refrainref1_unquoted.j1.eq_2 _ _ _ _ _ k) ?_)⟩
            simp only [Bool.false_eq_true, if_false, w1, if_pos (show (0 : Int) ≤ ((i + 1 : Nat) : Int) by omega), if_pos (show ((i + 1 : Nat) : Int) < (s.size : Int) by omega), if_neg b110, if_pos b116, if_pos (show acc.length < 140737488355328 by omega), w2]
            exact h
          by_cases b120 : bt s ((i + 1 : Nat) : Int) = 120
          · obtain ⟨r, h⟩ := st2 true
            refine ⟨r, st r (Ev.step (fun k => refrainref1_unquoted.j1.eq_2 _ _ _ _ _ k) ?_)⟩
            simp only [Bool.and_true] at h
            simp only [Bool.false_eq_true, if_false, w1, if_pos (show (0 : Int) ≤ ((i + 1 : Nat) : Int) by omega), if_pos (show ((i + 1 : Nat) : Int) < (s.size : Int) by omega), if_neg b110, if_neg b116, if_pos b120, w3]
            exact h
          · obtain ⟨r, h⟩ := st2 false
            refine ⟨r, st r (Ev.step (fun k => refrainref1_unquoted.j1.eq_2 _ _ _ _ _ k) ?_)⟩
            simp only [Bool.and_false] at h
            simp only [Bool.false_eq_true, if_false, w1, if_pos (show (0 : Int) ≤ ((i + 1 : Nat) : Int) by omega), if_pos (show ((i + 1 : Nat) : Int) < (s.size : Int) by omega), if_neg b110, if_neg b116, if_neg b120]
            exact h
      · obtain ⟨r, h⟩ := j1t (bt s (i : Int))
        refine ⟨r, Ev.step (fun k => refrainref1_unquoted.l0.eq_2 _ _ _ k) ?_⟩
        simp only [e1, if_pos hlt, if_pos (show (0 : Int) ≤ (i : Int) by omega), if_pos (show (i : Int) < (s.size : Int) by omega), if_neg h92]
        exact h
    · exact stop i acc hlt
theorem qv_pos (c : UInt8) : 1 ≤ (qv c).length := by unfold qv; repeat' split
                                                     all_goals simp
theorem W1 (i : Nat) (h : i ≤ 5000) : wrap64 ((i : Int) + 1) = ((i + 1 : Nat) : Int) := by rw [w64 (by omega) (by omega)]; omega
theorem W2 (i : Nat) (h : i ≤ 5000) : wrap64 (((i + 1 : Nat) : Int) + 1) = ((i + 2 : Nat) : Int) := by rw [w64 (by omega) (by omega)]; omega
theorem W3 (i : Nat) (h : i ≤ 5000) : wrap64 (((i + 1 : Nat) : Int) + 2) = ((i + 3 : Nat) : Int) := by rw [w64 (by omega) (by omega)]; omega
theorem W4 (i : Nat) (h : i ≤ 5000) : wrap64 (((i + 3 : Nat) : Int) + 1) = ((i + 4 : Nat) : Int) := by rw [w64 (by omega) (by omega)]; omega
theorem E1 (l : List UInt8) (h : l.length ≤ 1026) (h1 : 1 ≤ l.length) : wrap64 (((B l).size : Int) - 1) = (l.length : Int) - 1 := by rw [B_size]; exact w64 (by omega) (by omega)
set_option maxHeartbeats 4000000 in
/-- Reading back a string as it is written: one byte. -/
theorem unq_one (l : List UInt8) (hN : l.length ≤ 1026) (c : UInt8) (i : Nat) (acc tl : List UInt8) (hd : l.drop i = qv c ++ (tl ++ [34])) (ha : acc.length ≤ i) (R : Int × Int × ByteArray × Bool)
    (nx : Ev (fun k => refrainref1_unquoted.l0 k (B l) (nat8 (acc ++ [c])) ((i + (qv c).length : Nat) : Int)) R) : Ev (fun k => refrainref1_unquoted.l0 k (B l) (nat8 acc) (i : Int)) R := by
  have hsz : (B l).size = l.length := B_size l
  have hlen := drop_len hd
  simp only [List.length_append, List.length_cons, List.length_nil] at hlen
  have hal := nat8_len acc
  have hq1 := qv_pos c
  obtain ⟨q, hq⟩ : ∃ q, q = (qv c).length := ⟨_, rfl⟩
  rw [← hq] at hlen hq1 nx
  have hqA := Aside0.mk hq
  clear hq
  have hdA := Aside0.mk hd
  clear hd
  have hlt : c.toNat < 256 := c.toNat_lt
  have ac : nat8 (acc ++ [c]) = nat8 acc ++ [(c.toNat : Int)] := nat8_snoc acc c
  rw [ac] at nx
  have hi5 : i ≤ 5000 := by omega
  have g0 : (i : Int) < (l.length : Int) - 1 := by omega
  have st : ∀ b : Bool, (if bt (B l) (i : Int) = 92 then decide (((i + 1 : Nat) : Int) ≥ (l.length : Int) - 1) else true) = b → Ev (fun k => refrainref1_unquoted.j1 k (B l) (nat8 acc) (i : Int) (bt (B l) (i : Int)) b) R → Ev (fun k => refrainref1_unquoted.l0 k (B l) (nat8 acc) (i : Int)) R := fun b hb h => by
    refine Ev.step (fun k => refrainref1_unquoted.l0.eq_2 _ _ _ k) ?_
    simp only [E1 l hN (by omega), if_pos g0, if_pos (show (0 : Int) ≤ (i : Int) by omega), if_pos (show (i : Int) < ((B l).size : Int) by omega), W1 i hi5]
    by_cases h92 : bt (B l) (i : Int) = 92
    · rw [if_pos h92] at hb
      simp only [if_pos h92, hb]
      rw [h92] at h ⊢
      exact h
    · rw [if_neg h92] at hb
      simp only [if_neg h92, hb]
      exact h
  by_cases hp : qv c = [c] ∧ c.toNat ≠ 92
  · have hd := hdA.out
    have hq := hqA.out
    rw [hp.1] at hd hq
    rw [hq] at nx
    have hb : bt (B l) (i : Int) = (c.toNat : Int) := bt_at2 l i c _ hd
    refine st true (if_neg (by rw [hb]; omega)) (Ev.step (fun k => refrainref1_unquoted.j1.eq_2 _ _ _ _ _ k) ?_)
    simp only [if_pos, if_pos (show (nat8 acc).length < 140737488355328 by omega), W1 i hi5, hb]
    exact nx
  -- an escaped byte
  obtain ⟨x, t, eq, htl⟩ : ∃ x t, qv c = 92 :: x :: t ∧ ((t = [] ∧ ((x = c ∧ (c.toNat = 34 ∨ c.toNat = 92)) ∨ (x = 110 ∧ c.toNat = 10) ∨ (x = 116 ∧ c.toNat = 9))) ∨ (x = 120 ∧ t = [hexd (c.toNat / 16), hexd (c.toNat % 16)])) := by
    unfold qv at hp ⊢
    by_cases a : c.toNat = 34 ∨ c.toNat = 92
    · rw [if_pos a]; exact ⟨_, _, rfl, .inl ⟨rfl, .inl ⟨rfl, a⟩⟩⟩
    rw [if_neg a] at hp ⊢
    by_cases b : c.toNat = 10
    · rw [if_pos b]; exact ⟨_, _, rfl, .inl ⟨rfl, .inr (.inl ⟨rfl, b⟩)⟩⟩
    rw [if_neg b] at hp ⊢
    by_cases d : c.toNat = 9
    · rw [if_pos d]; exact ⟨_, _, rfl, .inl ⟨rfl, .inr (.inr ⟨rfl, d⟩)⟩⟩
    rw [if_neg d] at hp ⊢
    by_cases e : c.toNat < 32 ∨ 126 < c.toNat
    · rw [if_pos e]; exact ⟨_, _, rfl, .inr ⟨rfl, rfl⟩⟩
    · rw [if_neg e] at hp; exact absurd ⟨rfl, by omega⟩ hp
  have hd := hdA.out
  have hq := hqA.out
  rw [eq] at hd hq
  clear hqA hdA eq hp
  rw [List.length_cons, List.length_cons] at hq
  have hb : bt (B l) (i : Int) = 92 := bt_at2 l i 92 _ hd
  obtain ⟨hd1, _⟩ := drop_next hd
  have hb1 : bt (B l) ((i + 1 : Nat) : Int) = (x.toNat : Int) := bt_at2 l (i + 1) x _ hd1
  refine st false (by rw [if_pos hb]; exact decide_eq_false (by omega)) (Ev.step (fun k => refrainref1_unquoted.j1.eq_2 _ _ _ _ _ k) ?_)
  simp only [Bool.false_eq_true, if_false, W1 i hi5, if_pos (show (0 : Int) ≤ ((i + 1 : Nat) : Int) by omega), if_pos (show ((i + 1 : Nat) : Int) < ((B l).size : Int) by omega), hb1, if_pos (show (nat8 acc).length < 140737488355328 by omega), W2 i hi5, W3 i hi5]
  rcases htl with ⟨rfl, h⟩ | ⟨rfl, rfl⟩
  · rw [hq] at nx
    simp only [List.length_nil] at nx
    rcases h with ⟨rfl, h⟩ | ⟨rfl, h⟩ | ⟨rfl, h⟩
    · simp only [if_neg (show ¬ (x.toNat : Int) = 110 by omega), if_neg (show ¬ (x.toNat : Int) = 116 by omega), if_neg (show ¬ (x.toNat : Int) = 120 by omega)]
      refine Ev.step (fun k => refrainref1_unquoted.j2.eq_2 _ _ _ _ k) ?_
      simp only [Bool.false_eq_true, if_false, if_pos (show (0 : Int) ≤ ((i + 1 : Nat) : Int) by omega), if_pos (show ((i + 1 : Nat) : Int) < ((B l).size : Int) by omega), hb1, if_pos (show (nat8 acc).length < 140737488355328 by omega), W2 i hi5]
      exact nx
    · have e110 : (((110 : UInt8).toNat : Nat) : Int) = 110 := rfl
      simp only [e110, if_pos]
      rw [h] at nx
      exact nx
    · have e116 : (((116 : UInt8).toNat : Nat) : Int) = 116 := rfl
      simp only [e116, if_neg (show ¬ (116 : Int) = 110 by omega), if_pos]
      rw [h] at nx
      exact nx
  · have e120 : (((120 : UInt8).toNat : Nat) : Int) = 120 := rfl
    rw [hq] at nx
    simp only [List.length_cons, List.length_nil] at nx hlen hq
    obtain ⟨hd2, _⟩ := drop_next hd1
    obtain ⟨hd3, _⟩ := drop_next hd2
    have hb2 : bt (B l) ((i + 2 : Nat) : Int) = ((hexd (c.toNat / 16)).toNat : Int) := bt_at2 l (i + 1 + 1) _ _ hd2
    have hb3 : bt (B l) ((i + 3 : Nat) : Int) = ((hexd (c.toNat % 16)).toNat : Int) := bt_at2 l (i + 1 + 1 + 1) _ _ hd3
    simp only [e120, if_neg (show ¬ (120 : Int) = 110 by omega), if_neg (show ¬ (120 : Int) = 116 by omega), if_pos]
    refine Ev.step (fun k => refrainref1_unquoted.j2.eq_2 _ _ _ _ k) ?_
    simp only [decide_eq_true (show ((i + 3 : Nat) : Int) < ((B l).size : Int) by omega), if_pos, W2 i hi5, W3 i hi5, if_pos (show (0 : Int) ≤ ((i + 2 : Nat) : Int) by omega), if_pos (show ((i + 2 : Nat) : Int) < ((B l).size : Int) by omega), hb2]
    refine Ev.bind (f := fun k t => _) (nib_hex (c.toNat / 16) (by omega)) ?_
    simp only [if_pos (show (0 : Int) ≤ ((i + 3 : Nat) : Int) by omega), if_pos (show ((i + 3 : Nat) : Int) < ((B l).size : Int) by omega), hb3]
    refine Ev.bind (f := fun k t => _) (nib_hex (c.toNat % 16) (by omega)) ?_
    have ev : (wrap64 ((wrap64 (((c.toNat / 16 : Nat) : Int) * 16)) + ((c.toNat % 16 : Nat) : Int))) % 256 = (c.toNat : Int) := by
      rw [w64 (n := ((c.toNat / 16 : Nat) : Int) * 16) (by omega) (by omega), w64 (by omega) (by omega)]; omega
    simp only [if_pos (show (nat8 acc).length < 140737488355328 by omega), W4 i hi5, ev]
    exact nx
theorem unq_all (l : List UInt8) (hN : l.length ≤ 1026) : ∀ (rest acc : List UInt8) (i : Nat), l.drop i = rest.flatMap qv ++ [34] → acc.length ≤ i →
    Ev (fun k => refrainref1_unquoted.l0 k (B l) (nat8 acc) (i : Int)) (2, 0, B (acc ++ rest), false) := by
  intro rest
  induction rest with
  | nil =>
    intro acc i hd ha
    have hlen := drop_len hd
    simp at hlen
    have hsz : (B l).size = l.length := B_size l
    have e1 : wrap64 (((B l).size : Int) - 1) = ((l.length : Int) - 1) := by rw [hsz]; exact w64 (by omega) (by omega)
    refine Ev.step (fun k => refrainref1_unquoted.l0.eq_2 _ _ _ k) ?_
    simp only [e1, if_neg (show ¬ (i : Int) < (l.length : Int) - 1 by omega), son, List.append_nil]
    exact Ev.now _
  | cons c t ih =>
    intro acc i hd ha
    have e : (c :: t).flatMap qv ++ [34] = qv c ++ (t.flatMap qv ++ [34]) := by simp
    rw [e] at hd
    have hq1 := qv_pos c
    have hd2 : l.drop (i + (qv c).length) = t.flatMap qv ++ [34] := by rw [← List.drop_drop, hd, List.drop_left]
    have nx := ih (acc ++ [c]) (i + (qv c).length) hd2 (by rw [List.length_append]; exact Nat.add_le_add ha hq1)
    have e2 : acc ++ [c] ++ t = acc ++ c :: t := by simp
    rw [e2] at nx
    exact unq_one l hN c i acc (t.flatMap qv) hd ha _ nx
theorem refunq_qvs (s : List UInt8) (h : (qvs s).length ≤ 1026) : Ev (fun k => refrainref1_unquoted.f k (B (qvs s))) (2, 0, B s, false) := by
  have := unq_all (qvs s) h s [] 1 (by simp [qvs]) (by simp)
  exact this
/-- The three shapes of a value and of its text. -/
theorem show_shape (x : SV) (h : okV x = true) : (x.f0 = 1 ∧ x.f2 = ⟨#[]⟩ ∧ x.f3 = false ∧ showV x.f0 x.f1 x.f2 x.f3 = (B (Lib.itoa x.f1), 0)) ∨ (x.f0 = 2 ∧ x.f1 = 0 ∧ x.f3 = false ∧ x.f2.size ≤ 256 ∧ showV x.f0 x.f1 x.f2 x.f3 = (B (qvs x.f2.data.toList), 0)) ∨
    (x.f0 = 3 ∧ x.f1 = 0 ∧ x.f2 = ⟨#[]⟩ ∧ showV x.f0 x.f1 x.f2 x.f3 = (if x.f3 then ⟨#[84, 82, 85, 69]⟩ else ⟨#[70, 65, 76, 83, 69]⟩, 0)) := by
  obtain ⟨kd, n, s, b⟩ := x
  have hv : validV kd n s b = true := h
  have hn : ¬ validV kd n s b = false := by rw [hv]; simp
  show (kd = 1 ∧ s = _ ∧ b = _ ∧ showV kd n s b = _) ∨ (kd = 2 ∧ n = 0 ∧ b = false ∧ s.size ≤ 256 ∧ showV kd n s b = _) ∨ (kd = 3 ∧ n = 0 ∧ s = _ ∧ showV kd n s b = _)
  unfold showV
  rw [if_neg hn]
  unfold validV at hv
  by_cases k1 : kd = 1
  · rw [if_pos k1] at hv ⊢
    rw [Bool.and_eq_true] at hv
    exact .inl ⟨k1, empty_of hv.1, by simpa using hv.2, rfl⟩
  rw [if_neg k1] at hv ⊢
  by_cases k2 : kd = 2
  · rw [if_pos k2] at hv ⊢
    simp at hv
    exact .inr (.inl ⟨k2, hv.1.1, hv.1.2, hv.2, rfl⟩)
  rw [if_neg k2] at hv ⊢
  by_cases k3 : kd = 3
  · rw [if_pos k3, Bool.and_eq_true] at hv
    exact .inr (.inr ⟨k3, by simpa using hv.1, empty_of hv.2, rfl⟩)
  · rw [if_neg k3] at hv; cases hv
theorem read_fail {l : List UInt8} (h : (readP l).2.2.2.2 ≠ 0) : readP l = (0, 0, ⟨#[]⟩, false, 12) := by
  unfold readP at h ⊢
  dsimp only at h ⊢
  split
  · rename_i hc; rw [if_pos hc] at h; exact absurd rfl h
  · rfl
/-- Where the guess is the only value that could be shown so: to look at the guess's text is to read. -/
theorem try_ev (l : List UInt8) (v : SV) (hn : -9223372036854775808 ≤ v.f1 ∧ v.f1 ≤ 9223372036854775807) (only : ∀ w : SV, okV w = true → (-9223372036854775808 ≤ w.f1 ∧ w.f1 ≤ 9223372036854775807) → showV w.f0 w.f1 w.f2 w.f3 = (B l, 0) → w = v) :
    (if (showV v.f0 v.f1 v.f2 v.f3).2 = 0 then (if (showV v.f0 v.f1 v.f2 v.f3).1.toList = (B l).toList then (v.f0, v.f1, v.f2, v.f3, (0 : Int)) else (0, 0, (⟨#[]⟩ : ByteArray), false, 12)) else (0, 0, (⟨#[]⟩ : ByteArray), false, 12)) = readP l := by
  by_cases h : (showV v.f0 v.f1 v.f2 v.f3).2 = 0 ∧ (showV v.f0 v.f1 v.f2 v.f3).1.toList = (B l).toList
  · rw [if_pos h.1, if_pos h.2]
    have hv : validV v.f0 v.f1 v.f2 v.f3 = true := by
      cases e : validV v.f0 v.f1 v.f2 v.f3 with
      | true => rfl
      | false => have h1 := h.1; unfold showV at h1; rw [if_pos e] at h1; exact absurd h1 (by decide)
    have hr := (read_show v.f0 v.f1 v.f2 v.f3 hv hn.1 hn.2).1
    have e : (showV v.f0 v.f1 v.f2 v.f3).1.data.toList = l := by rw [← tl_data, h.2, B_toList]
    rw [e] at hr
    exact hr.symm
  · have hf : (readP l).2.2.2.2 ≠ 0 := fun e => by
      obtain ⟨a, b, c1, c2⟩ := read_ok e
      have := only ⟨(readP l).1, (readP l).2.1, (readP l).2.2.1, (readP l).2.2.2.1⟩ b ⟨c1, c2⟩ a
      apply h
      rw [← this]
      exact ⟨by rw [a], by rw [a]⟩
    rw [read_fail hf]
    split
    · split
      · rename_i a b; exact absurd ⟨a, b⟩ h
      · rfl
    · rfl
theorem text_size (x : SV) (h : okV x = true) (hn : -9223372036854775808 ≤ x.f1 ∧ x.f1 ≤ 9223372036854775807) (l : List UInt8) (e : showV x.f0 x.f1 x.f2 x.f3 = (B l, 0)) : 1 ≤ l.length ∧ l.length ≤ 1026 := by
  rcases show_shape x h with ⟨_, _, _, s⟩ | ⟨_, _, _, hs, s⟩ | ⟨_, _, _, s⟩
  · rw [s] at e
    have e1 : Lib.itoa x.f1 = l := B_inj (congrArg Prod.fst e)
    obtain ⟨c, r, a, _⟩ := itoa_head x.f1
    have := Lib.itoa_length_le x.f1 hn.1 hn.2
    rw [← e1]
    exact ⟨by rw [a, List.length_cons]; omega, by omega⟩
  · rw [s] at e
    have e1 : qvs x.f2.data.toList = l := B_inj (congrArg Prod.fst e)
    have f := fm_len x.f2.data.toList
    have d := data_len x.f2
    rw [← e1]
    unfold qvs
    simp only [List.length_cons, List.length_append, List.length_nil]
    omega
  · rw [s] at e
    have e1 : (if x.f3 then (⟨#[84, 82, 85, 69]⟩ : ByteArray) else ⟨#[70, 65, 76, 83, 69]⟩) = B l := congrArg Prod.fst e
    have : (if x.f3 then ([84, 82, 85, 69] : List UInt8) else [70, 65, 76, 83, 69]) = l := by
      have h2 := congrArg (fun s => s.data.toList) e1
      rw [B_data] at h2
      rw [← h2]
      split <;> rfl
    rw [← this]
    split <;> decide
/-- The first byte of a value's text. -/
theorem text_head (x : SV) (h : okV x = true) (c : UInt8) (t : List UInt8) (e : showV x.f0 x.f1 x.f2 x.f3 = (B (c :: t), 0)) :
    (x.f0 = 1 ∧ x.f2 = ⟨#[]⟩ ∧ x.f3 = false ∧ Lib.itoa x.f1 = c :: t ∧ (c.toNat = 45 ∨ 48 ≤ c.toNat ∧ c.toNat ≤ 57)) ∨ (x.f0 = 2 ∧ x.f1 = 0 ∧ x.f3 = false ∧ qvs x.f2.data.toList = c :: t ∧ c.toNat = 34) ∨ (x = ⟨3, 0, ⟨#[]⟩, true⟩ ∧ c.toNat = 84) ∨ (x = ⟨3, 0, ⟨#[]⟩, false⟩ ∧ c.toNat = 70) := by
  rcases show_shape x h with ⟨a, b, d, s⟩ | ⟨a, b, d, hs, s⟩ | ⟨a, b, d, s⟩
  · rw [s] at e
    have e1 : Lib.itoa x.f1 = c :: t := B_inj (congrArg Prod.fst e)
    obtain ⟨c', r, q, hc⟩ := itoa_head x.f1
    have : c' = c := by rw [q] at e1; exact (List.cons.inj e1).1
    subst this
    exact .inl ⟨a, b, d, e1, hc⟩
  · rw [s] at e
    have e1 : qvs x.f2.data.toList = c :: t := B_inj (congrArg Prod.fst e)
    have : (34 : UInt8) = c := (List.cons.inj e1).1
    exact .inr (.inl ⟨a, b, d, e1, by rw [← this]; rfl⟩)
  · rw [s] at e
    obtain ⟨x0, x1, x2, x3⟩ := x
    dsimp only at a b d e
    subst a; subst b; subst d
    have e1 := congrArg (fun s => s.data.toList) (congrArg Prod.fst e)
    cases x3
    · have : (70 : UInt8) = c := (List.cons.inj e1).1
      exact .inr (.inr (.inr ⟨rfl, by rw [← this]; rfl⟩))
    · have : (84 : UInt8) = c := (List.cons.inj e1).1
      exact .inr (.inr (.inl ⟨rfl, by rw [← this]; rfl⟩))
/-- The reference reads what the program reads. -/
theorem refread_ev (l : List UInt8) (hl : l.length ≤ 140737488351232) : Ev (fun k => refrainref1_Read.f k (B l)) (readP l) := by
  have bad : (l.length > 1026 ∨ l = []) → readP l = (0, 0, ⟨#[]⟩, false, 12) := fun h => by
    apply read_fail
    intro e
    obtain ⟨a, b, c1, c2⟩ := read_ok e
    have := text_size ⟨(readP l).1, (readP l).2.1, (readP l).2.2.1, (readP l).2.2.2.1⟩ b ⟨c1, c2⟩ l a
    rcases h with h | h
    · omega
    · subst h; simp at this
  unfold refrainref1_Read.f
  by_cases hbig : l.length > 1026
  · simp only [if_pos (show ((B l).size : Int) > 1026 by rw [B_size]; omega)]
    refine Ev.step (fun k => refrainref1_Read.j0.eq_2 _ _ k) ?_
    simp only [if_pos]
    rw [bad (.inl hbig)]
    exact Ev.now _
  simp only [if_neg (show ¬ ((B l).size : Int) > 1026 by rw [B_size]; omega), B_toList]
  cases l with
  | nil =>
    refine Ev.step (fun k => refrainref1_Read.j0.eq_2 _ _ k) ?_
    simp only [beq_self_eq_true, if_pos]
    rw [bad (.inr rfl)]
    exact Ev.now _
  | cons c t =>
    have hne : ((c :: t : List UInt8) == []) = false := rfl
    have hsz : (B (c :: t)).size = t.length + 1 := by rw [B_size]; rfl
    have hlt : t.length + 1 ≤ 1026 := by have h := hbig; rw [List.length_cons] at h; omega
    have hb : bt (B (c :: t)) 0 = (c.toNat : Int) := bt_mid [] c t
    rw [hne]
    refine Ev.step (fun k => refrainref1_Read.j0.eq_2 _ _ k) ?_
    simp only [Bool.false_eq_true, if_false]
    refine Ev.bind (f := fun k t => _) (guessed_ev (c :: t) hl) ?_
    simp only [if_pos (show 0 < ((B (c :: t)).size : Int) by rw [hsz]; omega), hb]
    by_cases h34 : (c.toNat : Int) = 34
    · simp only [if_pos h34]
      have tot : ∃ r, Ev (fun k => refrainref1_unquoted.f k (B (c :: t))) (2, 0, r, false) := unq_tot (B (c :: t)) (by rw [hsz]; omega) (by rw [hsz]; omega) _ 1 [] (Nat.le_refl _) (by simp) (by omega)
      obtain ⟨r, hr⟩ := tot
      refine Ev.bind (f := fun k t => _) hr ?_
      refine Ev.bind (f := fun k t => _) (refshow_ev 2 0 r false (by omega) (by omega)) ?_
      have := try_ev (c :: t) ⟨2, 0, r, false⟩ ⟨by show (-9223372036854775808 : Int) ≤ 0; omega, by show (0 : Int) ≤ 9223372036854775807; omega⟩ (fun w hw wr e => by
        rcases text_head w hw c t e with ⟨_, _, _, _, h⟩ | ⟨a, b, d, q, _⟩ | ⟨_, h⟩ | ⟨_, h⟩
        · omega
        · have h1 := refunq_qvs w.f2.data.toList (by rw [q, List.length_cons]; exact hlt)
          rw [q] at h1
          obtain ⟨k1, e1⟩ := hr
          obtain ⟨k2, e2⟩ := h1
          have e3 := (e1 (k1 + k2) (by omega)).symm.trans (e2 (k1 + k2) (by omega))
          have e4 : r = w.f2 := by
            have := congrArg (fun (o : Option (Int × Int × ByteArray × Bool)) => (o.getD (0, 0, ⟨#[]⟩, false)).2.2.1) e3
            simpa [B_of] using this
          obtain ⟨w0, w1, w2, w3⟩ := w
          dsimp only at a b d e4
          subst a; subst b; subst d; subst e4
          rfl
        · omega
        · omega)
      dsimp only at this ⊢
      refine Ev.congr (f := fun _ => some (readP (c :: t))) (fun k => ?_) (Ev.now _)
      rw [← this]
      repeat' split
      all_goals rfl
    simp only [if_neg h34]
    by_cases h84 : (c.toNat : Int) = 84
    · simp only [if_pos h84]
      refine Ev.bind (f := fun k t => _) (refshow_ev 3 0 ⟨#[]⟩ true (by omega) (by omega)) ?_
      have := try_ev (c :: t) ⟨3, 0, ⟨#[]⟩, true⟩ ⟨by show (-9223372036854775808 : Int) ≤ 0; omega, by show (0 : Int) ≤ 9223372036854775807; omega⟩ (fun w hw wr e => by
        rcases text_head w hw c t e with ⟨_, _, _, _, h⟩ | ⟨_, _, _, _, h⟩ | ⟨h, _⟩ | ⟨_, h⟩
        · omega
        · omega
        · exact h
        · omega)
      dsimp only at this ⊢
      refine Ev.congr (f := fun _ => some (readP (c :: t))) (fun k => ?_) (Ev.now _)
      rw [← this]
      repeat' split
      all_goals rfl
    simp only [if_neg h84]
    by_cases h70 : (c.toNat : Int) = 70
    · simp only [if_pos h70]
      refine Ev.bind (f := fun k t => _) (refshow_ev 3 0 ⟨#[]⟩ false (by omega) (by omega)) ?_
      have := try_ev (c :: t) ⟨3, 0, ⟨#[]⟩, false⟩ ⟨by show (-9223372036854775808 : Int) ≤ 0; omega, by show (0 : Int) ≤ 9223372036854775807; omega⟩ (fun w hw wr e => by
        rcases text_head w hw c t e with ⟨_, _, _, _, h⟩ | ⟨_, _, _, _, h⟩ | ⟨_, h⟩ | ⟨h, _⟩
        · omega
        · omega
        · omega
        · exact h)
      dsimp only at this ⊢
      refine Ev.congr (f := fun _ => some (readP (c :: t))) (fun k => ?_) (Ev.now _)
      rw [← this]
      repeat' split
      all_goals rfl
    simp only [if_neg h70]
    obtain ⟨n, hg, n0, n1⟩ := gP_shape (c :: t)
    rw [hg]
    refine Ev.bind (f := fun k t => _) (refshow_ev 1 n ⟨#[]⟩ false n0 n1) ?_
    have := try_ev (c :: t) ⟨1, n, ⟨#[]⟩, false⟩ ⟨n0, n1⟩ (fun w hw wr e => by
      rcases text_head w hw c t e with ⟨a, b, d, q, _⟩ | ⟨_, _, _, _, h⟩ | ⟨_, h⟩ | ⟨_, h⟩
      · have h1 := gP_itoa w.f1 wr.1 wr.2
        rw [q, hg] at h1
        have e4 : n = w.f1 := congrArg (fun (o : Int × Int × ByteArray × Bool) => o.2.1) h1
        obtain ⟨w0, w1, w2, w3⟩ := w
        dsimp only at a b d e4
        subst a; subst b; subst d; subst e4
        rfl
      · omega
      · omega
      · omega)
    dsimp only at this ⊢
    refine Ev.congr (f := fun _ => some (readP (c :: t))) (fun k => ?_) (Ev.now _)
    rw [← this]
    repeat' split
    all_goals rfl
end Go.Proofs.YthhpeeckiggpaaaGreatDoor.Pv

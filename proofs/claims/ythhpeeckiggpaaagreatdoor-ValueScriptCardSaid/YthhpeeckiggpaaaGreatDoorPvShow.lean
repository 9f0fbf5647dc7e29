import Derived.Test.YthhpeeckiggpaaaGreatDoorPvOps
import Derived.Test.YthhpeeckiggpaaaGreatDoorPrx7
import Derived.IntWalk
namespace Go.Proofs.YthhpeeckiggpaaaGreatDoor.Pv
open Go.RowKit Go.Proofs.YthhpeeckiggpaaaGreatDoor.Pu Go.Proofs.YthhpeeckiggpaaaGreatDoor.Pr Go.Proofs.YthhpeeckiggpaaaGreatDoorW.PrintWords Go.Proofs.YthhpeeckiggpaaaGreatDoorW.PrintLast Go.Proofs.YthhpeeckiggpaaaGreatDoorW.PrintMore
set_option linter.unusedVariables false
set_option linter.unusedSimpArgs false

theorem u64w {n : Int} (h0 : 0 ≤ n) (h1 : n ≤ 18446744073709551615) : IntKind.u64.wrap n = n := by rw [IntKind.wrap_u64]; omega
theorem refvalid_f (kd n : Int) (s : ByteArray) (b : Bool) : refrainref1_Valid.f kd n s b = some (validV kd n s b) := by
  unfold refrainref1_Valid.f validV
  by_cases h1 : kd = 1
  · rw [if_pos h1, if_pos h1]
    by_cases h : s.toList = []
    · rw [if_pos h, h]; cases b <;> rfl
    · rw [if_neg h]; simp [h]
  rw [if_neg h1, if_neg h1]
  by_cases h2 : kd = 2
  · rw [if_pos h2, if_pos h2]
    by_cases h : n = 0
    · rw [if_pos h, h]
      cases b
      · simp; omega
      · simp
    · rw [if_neg h]; simp [h]
  rw [if_neg h2, if_neg h2]
  by_cases h3 : kd = 3
  · rw [if_pos h3, if_pos h3]
    by_cases h : n = 0
    · rw [if_pos h, h]; simp
    · rw [if_neg h]; simp [h]
  rw [if_neg h3, if_neg h3]
/-- Numbers of bytes as a string. -/
theorem son (l : List UInt8) : strOfNums (nat8 l) = B l := by unfold nat8; rw [strOfNums_bytes, B]
theorem dig1 (d : Nat) (h : d < 10) : strOfNums ([((48 + d : Nat) : Int)]) = B [UInt8.ofNat (48 + d)] := by
  have := son [UInt8.ofNat (48 + d)]
  have e : nat8 [UInt8.ofNat (48 + d)] = [((48 + d : Nat) : Int)] := by
    simp only [nat8, List.map_cons, List.map_nil]
    rw [digc d h]
  rw [e] at this
  exact this
theorem dig_loop : ∀ (m u : Nat) (acc : List UInt8), u < 10 ^ (m + 1) → u ≤ 18446744073709551615 → acc.length + m ≤ 1000 →
    Ev (fun k => refrainref1_digits.l0 k (u : Int) (B acc)) (B (Lib.decDigits u ++ acc)) := by
  intro m
  induction m with
  | zero =>
    intro u acc h1 h2 h3
    refine Ev.step (fun k => refrainref1_digits.l0.eq_2 _ _ k) ?_
    have hu : u < 10 := by simpa using h1
    rw [Lib.decDigits, dif_pos hu]
    have e : (IntKind.u64.wrap (48 + (u : Int))) % 256 = ((48 + u : Nat) : Int) := by rw [u64w (by omega) (by omega)]; omega
    simp only [if_neg (show ¬ (u : Int) ≥ 10 by omega), e, Option.bind_some, dig1 u hu, B_append]
    rw [if_pos (by simp; omega)]
    exact Ev.now _
  | succ m ih =>
    intro u acc h1 h2 h3
    refine Ev.step (fun k => refrainref1_digits.l0.eq_2 _ _ k) ?_
    by_cases hu : u < 10
    · rw [Lib.decDigits, dif_pos hu]
      have e : (IntKind.u64.wrap (48 + (u : Int))) % 256 = ((48 + u : Nat) : Int) := by rw [u64w (by omega) (by omega)]; omega
      simp only [if_neg (show ¬ (u : Int) ≥ 10 by omega), e, Option.bind_some, dig1 u hu, B_append]
      rw [if_pos (by simp; omega)]
      exact Ev.now _
    · rw [Lib.decDigits, dif_neg hu]
      have t1 : Int.tmod (u : Int) 10 = ((u % 10 : Nat) : Int) := rfl
      have t2 : Int.tdiv (u : Int) 10 = ((u / 10 : Nat) : Int) := rfl
      have e : (IntKind.u64.wrap (48 + Int.tmod (u : Int) 10)) % 256 = ((48 + u % 10 : Nat) : Int) := by rw [t1, u64w (by omega) (by omega)]; omega
      have e2 : IntKind.u64.wrap (Int.tdiv (u : Int) 10) = ((u / 10 : Nat) : Int) := by rw [t2, u64w (by omega) (by omega)]
      simp only [if_pos (show (u : Int) ≥ 10 by omega), e, e2, Option.bind_some, dig1 (u % 10) (by omega), B_append]
      simp only [if_pos (show (B [UInt8.ofNat (48 + u % 10)]).size + (B acc).size ≤ 9223372036854775807 by rw [B_size, B_size]; simp only [List.length_cons, List.length_nil]; omega)]
      rw [List.append_assoc]
      exact ih (u / 10) _ (by rw [Nat.pow_succ] at h1; omega) (by omega) (by simp; omega)
theorem digits_ev (u : Nat) (h : u ≤ 18446744073709551615) : Ev (fun k => refrainref1_digits.f k (u : Int)) (B (Lib.decDigits u)) := by
  have := dig_loop 20 u [] (by omega) h (by simp)
  rw [List.append_nil] at this
  exact this
/-- A hexadecimal digit of the reference's. -/
theorem hex_all : ∀ n : Nat, n < 16 → refrainref1_Hex.f (n : Int) = some ((hexd n).toNat : Int) := by decide +kernel
theorem wb (c : UInt8) : wrap64 (c.toNat : Int) = (c.toNat : Int) := by have := c.toNat_lt; exact w64 (by omega) (by omega)
/-- One byte, as the reference writes it. -/
theorem q_step (K : Nat) (s : ByteArray) (acc : List Int) (i : Nat) (c : UInt8) (hi : i < s.size) (hs : s.size ≤ 140737488351232) (hc : bt s (i : Int) = (c.toNat : Int)) (ha : acc.length + 4 < 140737488355328) :
    refrainref1_quoted.l0 (K + 3) s acc (i : Int) = refrainref1_quoted.l0 (if c.toNat = 34 ∨ c.toNat = 92 ∨ c.toNat = 10 ∨ c.toNat = 9 then K + 1 else K) s (acc ++ nat8 (qv c)) ((i + 1 : Nat) : Int) := by
  have hw : wrap64 ((i : Int) + 1) = ((i + 1 : Nat) : Int) := by rw [w64 (by omega) (by omega)]; omega
  have hlt := c.toNat_lt
  have hm : ((c.toNat : Int)) % 256 = (c.toNat : Int) := by omega
  rw [refrainref1_quoted.l0, if_pos (by omega), if_pos (by omega), hc, wb c]
  by_cases h34 : c.toNat = 34
  · have q : nat8 (qv c) = [92, (c.toNat : Int)] := by unfold qv; rw [if_pos (.inl h34)]; rfl
    rw [if_pos (by omega), refrainref1_quoted.j1, if_pos rfl, q, hm, hw, if_pos (by omega)]
    simp only [Option.bind_some, List.length_cons, List.length_nil]
    rw [if_pos (by omega)]
  rw [if_neg (by omega)]
  by_cases h92 : c.toNat = 92
  · have q : nat8 (qv c) = [92, (c.toNat : Int)] := by unfold qv; rw [if_pos (.inr h92)]; rfl
    have b : ((c.toNat : Int) == 92) = true := by simp; omega
    rw [b, refrainref1_quoted.j1, if_pos rfl, q, hm, hw, if_pos (by omega)]
    simp only [Option.bind_some, List.length_cons, List.length_nil]
    rw [if_pos (by omega)]
  have b : ((c.toNat : Int) == 92) = false := by simp; omega
  rw [b, refrainref1_quoted.j1, if_neg (by simp)]
  have n1 : ¬ (c.toNat = 34 ∨ c.toNat = 92) := by omega
  by_cases h10 : c.toNat = 10
  · have q : nat8 (qv c) = [92, 110] := by unfold qv; rw [if_neg n1, if_pos h10]; rfl
    rw [if_pos (by omega), q, hw, if_pos (by omega)]
    simp only [Option.bind_some, List.length_cons, List.length_nil]
    rw [if_pos (by omega)]
  rw [if_neg (by omega)]
  by_cases h9 : c.toNat = 9
  · have q : nat8 (qv c) = [92, 116] := by unfold qv; rw [if_neg n1, if_neg h10, if_pos h9]; rfl
    rw [if_pos (by omega), q, hw, if_pos (by omega)]
    simp only [Option.bind_some, List.length_cons, List.length_nil]
    rw [if_pos (by omega)]
  rw [if_neg (by omega), if_neg (show ¬ (c.toNat = 34 ∨ c.toNat = 92 ∨ c.toNat = 10 ∨ c.toNat = 9) by omega)]
  by_cases hp : 32 ≤ c.toNat ∧ c.toNat ≤ 126
  · have q : nat8 (qv c) = [(c.toNat : Int)] := by unfold qv; rw [if_neg n1, if_neg h10, if_neg h9, if_neg (by omega)]; rfl
    rw [if_pos (by omega), decide_eq_true (show (c.toNat : Int) ≤ 126 by omega), refrainref1_quoted.j2, if_pos rfl, if_pos (by omega), q, hm, hw]
  · have q : nat8 (qv c) = [92, 120, ((hexd (c.toNat / 16)).toNat : Int), ((hexd (c.toNat % 16)).toNat : Int)] := by unfold qv; rw [if_neg n1, if_neg h10, if_neg h9, if_pos (by omega)]; rfl
    have t1 : wrap64 (Int.tdiv (c.toNat : Int) 16) = ((c.toNat / 16 : Nat) : Int) := by rw [show Int.tdiv (c.toNat : Int) 16 = ((c.toNat / 16 : Nat) : Int) from rfl]; exact w64 (by omega) (by omega)
    have t2 : Int.tmod (c.toNat : Int) 16 = ((c.toNat % 16 : Nat) : Int) := rfl
    have fin : refrainref1_quoted.j2 (K + 1) s acc (i : Int) (c.toNat : Int) false = refrainref1_quoted.l0 K s (acc ++ nat8 (qv c)) ((i + 1 : Nat) : Int) := by
      rw [refrainref1_quoted.j2, if_neg (by simp), t1, t2, hex_all _ (by omega), hex_all _ (by omega), q, hw]
      simp only [Option.bind_some, List.length_cons, List.length_nil]
      rw [if_pos (by omega)]
    by_cases h32 : 32 ≤ c.toNat
    · rw [if_pos (by omega), decide_eq_false (show ¬ (c.toNat : Int) ≤ 126 by omega), fin]
    · rw [if_neg (by omega), fin]
theorem q_loop (l : List UInt8) (hN : l.length ≤ 17592186044416) : ∀ (rest pre acc : List UInt8), pre ++ rest = l → acc.length ≤ 4 * pre.length + 1 →
    Ev (fun k => refrainref1_quoted.l0 k (B l) (nat8 acc) (pre.length : Int)) (B (acc ++ (rest.flatMap qv ++ [34]))) := by
  intro rest
  induction rest with
  | nil =>
    intro pre acc hp ha
    have hl : pre.length = l.length := by rw [← hp]; simp
    refine Ev.step (f := fun _ => some (B (acc ++ [34]))) (fun K => ?_) (by simpa using Ev.now (B (acc ++ [34])))
    rw [refrainref1_quoted.l0, if_neg (by rw [B_size]; omega), if_pos (by rw [nat8_len]; omega)]
    have : nat8 acc ++ [34] = nat8 (acc ++ [34]) := by simp [nat8]
    rw [this, son]
  | cons c t ih =>
    intro pre acc hp ha
    have hlen : pre.length + (t.length + 1) = l.length := by rw [← hp]; simp
    have hb : bt (B l) (pre.length : Int) = (c.toNat : Int) := by rw [← hp]; exact bt_mid pre c t
    have st := fun K => q_step K (B l) (nat8 acc) pre.length c (by rw [B_size]; omega) (by rw [B_size]; omega) hb (by rw [nat8_len]; omega)
    have nx := ih (pre ++ [c]) (acc ++ qv c) (by rw [List.append_assoc]; exact hp) (by have := qv_len c; simp; omega)
    have e1 : nat8 (acc ++ qv c) = nat8 acc ++ nat8 (qv c) := by simp [nat8]
    rw [e1, List.append_assoc] at nx
    have e2 : ((pre ++ [c]).length : Int) = ((pre.length + 1 : Nat) : Int) := by simp
    rw [e2] at nx
    have e3 : (c :: t).flatMap qv = qv c ++ t.flatMap qv := rfl
    rw [e3, List.append_assoc]
    obtain ⟨K0, h0⟩ := nx
    refine ⟨K0 + 3, fun k hk => ?_⟩
    obtain ⟨j, rfl⟩ : ∃ j, k = j + 3 := ⟨k - 3, by omega⟩
    show refrainref1_quoted.l0 (j + 3) (B l) (nat8 acc) (pre.length : Int) = _
    rw [st j]
    split
    · exact h0 _ (by omega)
    · exact h0 _ (by omega)
theorem quoted_ev (l : List UInt8) (hN : l.length ≤ 17592186044416) : Ev (fun k => refrainref1_quoted.f k (B l)) (B (qvs l)) := q_loop l hN l [] [34] rfl (by simp)
/-- The reference's text of a value is the program's. -/
theorem refshow_ev (kd n : Int) (s : ByteArray) (b : Bool) (h0 : -9223372036854775808 ≤ n) (h1 : n ≤ 9223372036854775807) : Ev (fun k => refrainref1_Show.f k kd n s b) (showV kd n s b) := by
  unfold refrainref1_Show.f
  simp only [refvalid_f, Option.bind_some]
  by_cases hv : validV kd n s b = true
  · simp only [if_pos hv]
    have hnv : ¬ validV kd n s b = false := by rw [hv]; simp
    unfold showV
    simp only [if_neg hnv]
    by_cases k1 : kd = 1
    · simp only [if_pos k1]
      by_cases hn : n < 0
      · have em : IntKind.u64.wrap ((IntKind.u64.wrap (wrap64 (-(wrap64 (n + 1))))) + 1) = ((n.natAbs : Nat) : Int) := by
          rw [w64 (n := n + 1) (by omega) (by omega), w64 (n := -(n + 1)) (by omega) (by omega), u64w (n := -(n + 1)) (by omega) (by omega), u64w (by omega) (by omega)]; omega
        simp only [if_pos hn, em]
        refine Ev.bind (f := fun k t => _) (digits_ev n.natAbs (by omega)) ?_
        have hl := Lib.itoa_length_le n h0 h1
        unfold Lib.itoa at hl ⊢
        rw [if_pos hn] at hl ⊢
        simp only [List.length_cons] at hl
        simp only [if_pos (show 1 + (B (Lib.decDigits n.natAbs)).size ≤ 9223372036854775807 by rw [B_size]; omega)]
        have e2 : (⟨#[45]⟩ : ByteArray) ++ B (Lib.decDigits n.natAbs) = ⟨(45 :: Lib.decDigits n.natAbs).toArray⟩ := by
          have := B_append [45] (Lib.decDigits n.natAbs)
          exact this
        rw [e2]
        exact Ev.now _
      · have em : IntKind.u64.wrap n = ((n.toNat : Nat) : Int) := by rw [u64w (by omega) (by omega)]; omega
        simp only [if_neg hn, em]
        refine Ev.bind (f := fun k t => _) (digits_ev n.toNat (by omega)) ?_
        unfold Lib.itoa
        rw [if_neg hn]
        exact Ev.now _
    simp only [if_neg k1]
    by_cases k2 : kd = 2
    · simp only [if_pos k2]
      have hs : s.size ≤ 256 := by
        unfold validV at hv
        rw [if_neg k1, if_pos k2] at hv
        simp at hv
        exact hv.2
      have hq := quoted_ev s.data.toList (by rw [data_len]; omega)
      rw [B_of] at hq
      exact Ev.bind (f := fun k t => _) hq (Ev.now _)
    · simp only [if_neg k2]
      cases b
      · simp only [Bool.false_eq_true, if_false]; exact Ev.now _
      · simp only [if_true]; exact Ev.now _
  · simp only [if_neg hv]
    unfold showV
    rw [if_pos (by simpa using hv)]
    exact Ev.now _
end Go.Proofs.YthhpeeckiggpaaaGreatDoor.Pv

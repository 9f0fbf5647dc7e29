/-
Part 12 of the proof of the law CsvTwo: texts OpnCsvEventsU, PvOk, PvShow, PvRefRead, PvRefCell, PureCsvEventsU.
-/
import Derived.IntWalk
import Derived.Test.YtpkbhfdfgapmlaaGreatDoorMCsvTwo1
import Derived.Test.YtpkbhfdfgapmlaaGreatDoorMCsvTwo10
import Derived.Test.YtpkbhfdfgapmlaaGreatDoorMCsvTwo11
import Derived.Test.YtpkbhfdfgapmlaaGreatDoorMCsvTwo3
import Derived.Test.YtpkbhfdfgapmlaaGreatDoorMCsvTwo6
import Derived.Test.YtpkbhfdfgapmlaaGreatDoorMCsvTwo9
/-! ## text OpnCsvEventsU -/
section
namespace Go.Proofs.YtpkbhfdfgapmlaaGreatDoor.csvEvents
open Go Go.RowKit Go.Proofs.YtpkbhfdfgapmlaaGreatDoor.Pr Go.Proofs.YtpkbhfdfgapmlaaGreatDoor.Opn Go.Proofs.YtpkbhfdfgapmlaaGreatDoorW.PrintWords Go.Proofs.YtpkbhfdfgapmlaaGreatDoorW.PrintLast Go.Proofs.YtpkbhfdfgapmlaaGreatDoorW.PrintMore
set_option linter.unusedVariables false
def G30 (x : S30) : Prop := x.f0.size ≤ 140737488351232 ∧ (Lit.int .i64 x.f1).wf = true
def M30 (x : S30) : Nat := ((x.f0.size + 1) + 1) + 1
theorem opB30 (n : Nat) : OpensB Tryz.prog (n + 1) 30 k30 G30 M30 :=
  opensB_struct (t := 30) (fl := [(9, 0), (3, 1)]) Tryz.underlying30 (by rfl) (by kernel_rfl) (opensFB_cons (opensB_string Tryz.underlying9) (opensFB_one (opensB_int Tryz.underlying3))) (fun x : S30 => (x.f0, x.f1)) (fun p => (⟨p.1, p.2⟩ : S30)) (fun _ => rfl)
def G24 (x : S24) : Prop := x.f0.size ≤ 140737488351232 ∧ LG 24 (fun x => G30 x) x.f1
def M24 (x : S24) : Nat := ((x.f0.size + 1) + ((List.map (fun x => M30 x) x.f1).sum + 1)) + 1
theorem opB24 (n : Nat) : OpensB Tryz.prog (n + 3) 24 k24 G24 M24 :=
  opensB_struct (t := 24) (fl := [(9, 0), (22, 1)]) Tryz.underlying24 (by rfl) (by kernel_rfl) (opensFB_cons (opensB_string Tryz.underlying9) (opensFB_one (opensB_slice (e := 30) Tryz.underlying22 (by kernel_rfl) (B := 24) (by kernel_rfl) (opB30 n)))) (fun x : S24 => (x.f0, x.f1)) (fun p => (⟨p.1, p.2⟩ : S24)) (fun _ => rfl)
def G43 (x : S43) : Prop := (Lit.int .i64 x.f0).wf = true ∧ (Lit.int .i64 x.f1).wf = true ∧ x.f2.size ≤ 140737488351232 ∧ True
def M43 (x : S43) : Nat := (1 + (1 + ((x.f2.size + 1) + 1))) + 1
theorem opB43 (n : Nat) : OpensB Tryz.prog (n + 1) 43 k43 G43 M43 :=
  opensB_struct (t := 43) (fl := [(3, 0), (2, 1), (9, 2), (4, 3)]) Tryz.underlying43 (by rfl) (by kernel_rfl) (opensFB_cons (opensB_int Tryz.underlying3) (opensFB_cons (opensB_int Tryz.underlying2) (opensFB_cons (opensB_string Tryz.underlying9) (opensFB_one (opensB_bool Tryz.underlying4))))) (fun x : S43 => (x.f0, x.f1, x.f2, x.f3)) (fun p => (⟨p.1, p.2.1, p.2.2.1, p.2.2.2⟩ : S43)) (fun _ => rfl)
def G35 (x : S35) : Prop := x.f0.size ≤ 140737488351232 ∧ (Lit.int .i64 x.f1).wf = true ∧ LG 40 (fun x => G43 x) x.f2
def M35 (x : S35) : Nat := ((x.f0.size + 1) + (1 + ((List.map (fun x => M43 x) x.f2).sum + 1))) + 1
theorem opB35 (n : Nat) : OpensB Tryz.prog (n + 3) 35 k35 G35 M35 :=
  opensB_struct (t := 35) (fl := [(9, 0), (2, 1), (33, 2)]) Tryz.underlying35 (by rfl) (by kernel_rfl) (opensFB_cons (opensB_string Tryz.underlying9) (opensFB_cons (opensB_int Tryz.underlying2) (opensFB_one (opensB_slice (e := 43) Tryz.underlying33 (by kernel_rfl) (B := 40) (by kernel_rfl) (opB43 n))))) (fun x : S35 => (x.f0, x.f1, x.f2)) (fun p => (⟨p.1, p.2.1, p.2.2⟩ : S35)) (fun _ => rfl)
/-- THE ONE PURE STATEMENT of CsvEvents. -/
def PureG : Prop := ∀ (x0 : S24) (x1 : (List (List ByteArray))) (x2 : (List S35)), G24 x0 → LG 24 (fun x => LG 16 (fun x => x.size ≤ 140737488351232) x) x1 → LG 48 (fun x => G35 x) x2 → M24 x0 + ((List.map (fun x => ((List.map (fun x => (x.size + 1)) x).sum + 1)) x1).sum + 1) + ((List.map (fun x => M35 x) x2).sum + 1) ≤ 1048576 → ∃ k, refrainlaw4_CsvEvents.f k x0.f0 x0.f1 x1 x2 = some true
end Go.Proofs.YtpkbhfdfgapmlaaGreatDoor.csvEvents
end

/-! ## text PvOk -/
section
namespace Go.Proofs.YtpkbhfdfgapmlaaGreatDoor.Pv
open Go.RowKit Go.Proofs.YtpkbhfdfgapmlaaGreatDoor.Pu Go.Proofs.YtpkbhfdfgapmlaaGreatDoor.Pr Go.Proofs.YtpkbhfdfgapmlaaGreatDoorW.PrintWords Go.Proofs.YtpkbhfdfgapmlaaGreatDoorW.PrintLast Go.Proofs.YtpkbhfdfgapmlaaGreatDoorW.PrintMore
abbrev SV := S43
def okV (x : SV) : Bool := validV x.f0 x.f1 x.f2 x.f3
end Go.Proofs.YtpkbhfdfgapmlaaGreatDoor.Pv
end

/-! ## text PvShow -/
section
namespace Go.Proofs.YtpkbhfdfgapmlaaGreatDoor.Pv
open Go.RowKit Go.Proofs.YtpkbhfdfgapmlaaGreatDoor.Pu Go.Proofs.YtpkbhfdfgapmlaaGreatDoor.Pr Go.Proofs.YtpkbhfdfgapmlaaGreatDoorW.PrintWords Go.Proofs.YtpkbhfdfgapmlaaGreatDoorW.PrintLast Go.Proofs.YtpkbhfdfgapmlaaGreatDoorW.PrintMore
set_option linter.unusedVariables false
set_option linter.unusedSimpArgs false

theorem u64w {n : Int} (h0 : 0 ≤ n) (h1 : n ≤ 18446744073709551615) : IntKind.u64.wrap n = n := by rw [IntKind.wrap_u64]; omega
theorem refvalid_f (kd n : Int) (s : ByteArray) (b : Bool) : refrainref1_Valid.f kd n s b = some (validV kd n s b) := by
  unfold refrainref1_Valid.f validV
  by_cases h1 : kd = 1
  · rw [if_pos h1, if_pos h1]
    by_cases h : s.toList = []
    · rw [if_pos h, h]; cases b <;> rfl
    · rw [if_neg h]; simp [h]
  rw [if_neg h1, if_neg h1]
  by_cases h2 : kd = 2
  · rw [if_pos h2, if_pos h2]
    by_cases h : n = 0
    · rw [if_pos h, h]
      cases b
      · simp; omega
      · simp
    · rw [if_neg h]; simp [h]
  rw [if_neg h2, if_neg h2]
  by_cases h3 : kd = 3
  · rw [if_pos h3, if_pos h3]
    by_cases h : n = 0
    · rw [if_pos h, h]; simp
    · rw [if_neg h]; simp [h]
  rw [if_neg h3, if_neg h3]
/-- Numbers of bytes as a string. -/
theorem son (l : List UInt8) : strOfNums (nat8 l) = B l := by unfold nat8; rw [strOfNums_bytes, B]
theorem dig1 (d : Nat) (h : d < 10) : strOfNums ([((48 + d : Nat) : Int)]) = B [UInt8.ofNat (48 + d)] := by
  have := son [UInt8.ofNat (48 + d)]
  have e : nat8 [UInt8.ofNat (48 + d)] = [((48 + d : Nat) : Int)] := by
    simp only [nat8, List.map_cons, List.map_nil]
    rw [digc d h]
  rw [e] at this
  exact this
theorem dig_loop : ∀ (m u : Nat) (acc : List UInt8), u < 10 ^ (m + 1) → u ≤ 18446744073709551615 → acc.length + m ≤ 1000 →
    Ev (fun k => refrainref1_digits.l0 k (u : Int) (B acc)) (B (Lib.decDigits u ++ acc)) := by
  intro m
  induction m with
  | zero =>
    intro u acc h1 h2 h3
    refine Ev.step (fun k => refrainref1_digits.l0.eq_2 _ _ k) ?_
    have hu : u < 10 := by simpa using h1
    rw [Lib.decDigits, dif_pos hu]
    have e : (IntKind.u64.wrap (48 + (u : Int))) % 256 = ((48 + u : Nat) : Int) := by rw [u64w (by omega) (by omega)]; omega
    simp only [if_neg (show ¬ (u : Int) ≥ 10 by omega), e, Option.bind_some, dig1 u hu, B_append]
    rw [if_pos (by simp; omega)]
    exact Ev.now _
  | succ m ih =>
    intro u acc h1 h2 h3
    refine Ev.step (fun k => refrainref1_digits.l0.eq_2 _ _ k) ?_
    by_cases hu : u < 10
    · rw [Lib.decDigits, dif_pos hu]
      have e : (IntKind.u64.wrap (48 + (u : Int))) % 256 = ((48 + u : Nat) : Int) := by rw [u64w (by omega) (by omega)]; omega
      simp only [if_neg (show ¬ (u : Int) ≥ 10 by omega), e, Option.bind_some, dig1 u hu, B_append]
      rw [if_pos (by simp; omega)]
      exact Ev.now _
    · rw [Lib.decDigits, dif_neg hu]
      have t1 : Int.tmod (u : Int) 10 = ((u % 10 : Nat) : Int) := rfl
      have t2 : Int.tdiv (u : Int) 10 = ((u / 10 : Nat) : Int) := rfl
      have e : (IntKind.u64.wrap (48 + Int.tmod (u : Int) 10)) % 256 = ((48 + u % 10 : Nat) : Int) := by rw [t1, u64w (by omega) (by omega)]; omega
      have e2 : IntKind.u64.wrap (Int.tdiv (u : Int) 10) = ((u / 10 : Nat) : Int) := by rw [t2, u64w (by omega) (by omega)]
      simp only [if_pos (show (u : Int) ≥ 10 by omega), e, e2, Option.bind_some, dig1 (u % 10) (by omega), B_append]
      simp only [if_pos (show (B [UInt8.ofNat (48 + u % 10)]).size + (B acc).size ≤ 9223372036854775807 by rw [B_size, B_size]; simp only [List.length_cons, List.length_nil]; omega)]
      rw [List.append_assoc]
      exact ih (u / 10) _ (by rw [Nat.pow_succ] at h1; omega) (by omega) (by simp; omega)
theorem digits_ev (u : Nat) (h : u ≤ 18446744073709551615) : Ev (fun k => refrainref1_digits.f k (u : Int)) (B (Lib.decDigits u)) := by
  have := dig_loop 20 u [] (by omega) h (by simp)
  rw [List.append_nil] at this
  exact this
/-- A hexadecimal digit of the reference's. -/
theorem hex_all : ∀ n : Nat, n < 16 → refrainref1_Hex.f (n : Int) = some ((hexd n).toNat : Int) := by decide +kernel
theorem wb (c : UInt8) : wrap64 (c.toNat : Int) = (c.toNat : Int) := by have := c.toNat_lt; exact w64 (by omega) (by omega)
/-- One byte, as the reference writes it. -/
theorem q_step (K : Nat) (s : ByteArray) (acc : List Int) (i : Nat) (c : UInt8) (hi : i < s.size) (hs : s.size ≤ 140737488351232) (hc : bt s (i : Int) = (c.toNat : Int)) (ha : acc.length + 4 < 140737488355328) :
    refrainref1_quoted.l0 (K + 3) s acc (i : Int) = refrainref1_quoted.l0 (if c.toNat = 34 ∨ c.toNat = 92 ∨ c.toNat = 10 ∨ c.toNat = 9 then K + 1 else K) s (acc ++ nat8 (qv c)) ((i + 1 : Nat) : Int) := by
  have hw : wrap64 ((i : Int) + 1) = ((i + 1 : Nat) : Int) := by rw [w64 (by omega) (by omega)]; omega
  have hlt := c.toNat_lt
  have hm : ((c.toNat : Int)) % 256 = (c.toNat : Int) := by omega
  rw [refrainref1_quoted.l0, if_pos (by omega), if_pos (by omega), hc, wb c]
  by_cases h34 : c.toNat = 34
  · have q : nat8 (qv c) = [92, (c.toNat : Int)] := by unfold qv; rw [if_pos (.inl h34)]; rfl
    rw [if_pos (by omega), refrainref1_quoted.j1, if_pos rfl, q, hm, hw, if_pos (by omega)]
    simp only [Option.bind_some, List.length_cons, List.length_nil]
    rw [if_pos (by omega)]
  rw [if_neg (by omega)]
  by_cases h92 : c.toNat = 92
  · have q : nat8 (qv c) = [92, (c.toNat : Int)] := by unfold qv; rw [if_pos (.inr h92)]; rfl
    have b : ((c.toNat : Int) == 92) = true := by simp; omega
    rw [b, refrainref1_quoted.j1, if_pos rfl, q, hm, hw, if_pos (by omega)]
    simp only [Option.bind_some, List.length_cons, List.length_nil]
    rw [if_pos (by omega)]
  have b : ((c.toNat : Int) == 92) = false := by simp; omega
  rw [b, refrainref1_quoted.j1, if_neg (by simp)]
  have n1 : ¬ (c.toNat = 34 ∨ c.toNat = 92) := by omega
  by_cases h10 : c.toNat = 10
  · have q : nat8 (qv c) = [92, 110] := by unfold qv; rw [if_neg n1, if_pos h10]; rfl
    rw [if_pos (by omega), q, hw, if_pos (by omega)]
    simp only [Option.bind_some, List.length_cons, List.length_nil]
    rw [if_pos (by omega)]
  rw [if_neg (by omega)]
  by_cases h9 : c.toNat = 9
  · have q : nat8 (qv c) = [92, 116] := by unfold qv; rw [if_neg n1, if_neg h10, if_pos h9]; rfl
    rw [if_pos (by omega), q, hw, if_pos (by omega)]
    simp only [Option.bind_some, List.length_cons, List.length_nil]
    rw [if_pos (by omega)]
  rw [if_neg (by omega), if_neg (show ¬ (c.toNat = 34 ∨ c.toNat = 92 ∨ c.toNat = 10 ∨ c.toNat = 9) by omega)]
  by_cases hp : 32 ≤ c.toNat ∧ c.toNat ≤ 126
  · have q : nat8 (qv c) = [(c.toNat : Int)] := by unfold qv; rw [if_neg n1, if_neg h10, if_neg h9, if_neg (by omega)]; rfl
    rw [if_pos (by omega), decide_eq_true (show (c.toNat : Int) ≤ 126 by omega), refrainref1_quoted.j2, if_pos rfl, if_pos (by omega), q, hm, hw]
  · have q : nat8 (qv c) = [92, 120, ((hexd (c.toNat / 16)).toNat : Int), ((hexd (c.toNat % 16)).toNat : Int)] := by unfold qv; rw [if_neg n1, if_neg h10, if_neg h9, if_pos (by omega)]; rfl
    have t1 : wrap64 (Int.tdiv (c.toNat : Int) 16) = ((c.toNat / 16 : Nat) : Int) := by rw [show Int.tdiv (c.toNat : Int) 16 = ((c.toNat / 16 : Nat) : Int) from rfl]; exact w64 (by omega) (by omega)
    have t2 : Int.tmod (c.toNat : Int) 16 = ((c.toNat % 16 : Nat) : Int) := rfl
    have fin : refrainref1_quoted.j2 (K + 1) s acc (i : Int) (c.toNat : Int) false = refrainref1_quoted.l0 K s (acc ++ nat8 (qv c)) ((i + 1 : Nat) : Int) := by
      rw [refrainref1_quoted.j2, if_neg (by simp), t1, t2, hex_all _ (by omega), hex_all _ (by omega), q, hw]
      simp only [Option.bind_some, List.length_cons, List.length_nil]
      rw [if_pos (by omega)]
    by_cases h32 : 32 ≤ c.toNat
    · rw [if_pos (by omega), decide_eq_false (show ¬ (c.toNat : Int) ≤ 126 by omega), fin]
    · rw [if_neg (by omega), fin]
theorem q_loop (l : List UInt8) (hN : l.length ≤ 17592186044416) : ∀ (rest pre acc : List UInt8), pre ++ rest = l → acc.length ≤ 4 * pre.length + 1 →
    Ev (fun k => refrainref1_quoted.l0 k (B l) (nat8 acc) (pre.length : Int)) (B (acc ++ (rest.flatMap qv ++ [34]))) := by
  intro rest
  induction rest with
  | nil =>
    intro pre acc hp ha
    have hl : pre.length = l.length := by rw [← hp]; simp
    refine Ev.step (f := fun _ => some (B (acc ++ [34]))) (fun K => ?_) (by simpa using Ev.now (B (acc ++ [34])))
    rw [refrainref1_quoted.l0, if_neg (by rw [B_size]; omega), if_pos (by rw [nat8_len]; omega)]
    have : nat8 acc ++ [34] = nat8 (acc ++ [34]) := by simp [nat8]
    rw [this, son]
  | cons c t ih =>
    intro pre acc hp ha
    have hlen : pre.length + (t.length + 1) = l.length := by rw [← hp]; simp
    have hb : bt (B l) (pre.length : Int) = (c.toNat : Int) := by rw [← hp]; exact bt_mid pre c t
    have st := fun K => q_step K (B l) (nat8 acc) pre.length c (by rw [B_size]; omega) (by rw [B_size]; omega) hb (by rw [nat8_len]; omega)
    have nx := ih (pre ++ [c]) (acc ++ qv c) (by rw [List.append_assoc]; exact hp) (by have := qv_len c; simp; omega)
    have e1 : nat8 (acc ++ qv c) = nat8 acc ++ nat8 (qv c) := by simp [nat8]
    rw [e1, List.append_assoc] at nx
    have e2 : ((pre ++ [c]).length : Int) = ((pre.length + 1 : Nat) : Int) := by simp
    rw [e2] at nx
    have e3 : (c :: t).flatMap qv = qv c ++ t.flatMap qv := rfl
    rw [e3, List.append_assoc]
    obtain ⟨K0, h0⟩ := nx
    refine ⟨K0 + 3, fun k hk => ?_⟩
    obtain ⟨j, rfl⟩ : ∃ j, k = j + 3 := ⟨k - 3, by omega⟩
    show refrainref1_quoted.l0 (j + 3) (B l) (nat8 acc) (pre.length : Int) = _
    rw [st j]
    split
    · exact h0 _ (by omega)
    · exact h0 _ (by omega)
theorem quoted_ev (l : List UInt8) (hN : l.length ≤ 17592186044416) : Ev (fun k => refrainref1_quoted.f k (B l)) (B (qvs l)) := q_loop l hN l [] [34] rfl (by simp)
/-- The reference's text of a value is the program's. -/
theorem refshow_ev (kd n : Int) (s : ByteArray) (b : Bool) (h0 : -9223372036854775808 ≤ n) (h1 : n ≤ 9223372036854775807) : Ev (fun k => refrainref1_Show.f k kd n s b) (showV kd n s b) := by
  unfold refrainref1_Show.f
  simp only [refvalid_f, Option.bind_some]
  by_cases hv : validV kd n s b = true
  · simp only [if_pos hv]
    have hnv : ¬ validV kd n s b = false := by rw [hv]; simp
    unfold showV
    simp only [if_neg hnv]
    by_cases k1 : kd = 1
    · simp only [if_pos k1]
      by_cases hn : n < 0
      · have em : IntKind.u64.wrap ((IntKind.u64.wrap (wrap64 (-(wrap64 (n + 1))))) + 1) = ((n.natAbs : Nat) : Int) := by
          rw [w64 (n := n + 1) (by omega) (by omega), w64 (n := -(n + 1)) (by omega) (by omega), u64w (n := -(n + 1)) (by omega) (by omega), u64w (by omega) (by omega)]; omega
        simp only [if_pos hn, em]
        refine Ev.bind (f := fun k t => _) (digits_ev n.natAbs (by omega)) ?_
        have hl := Lib.itoa_length_le n h0 h1
        unfold Lib.itoa at hl ⊢
        rw [if_pos hn] at hl ⊢
        simp only [List.length_cons] at hl
        simp only [if_pos (show 1 + (B (Lib.decDigits n.natAbs)).size ≤ 9223372036854775807 by rw [B_size]; omega)]
        have e2 : (⟨#[45]⟩ : ByteArray) ++ B (Lib.decDigits n.natAbs) = ⟨(45 :: Lib.decDigits n.natAbs).toArray⟩ := by
          have := B_append [45] (Lib.decDigits n.natAbs)
          exact this
        rw [e2]
        exact Ev.now _
      · have em : IntKind.u64.wrap n = ((n.toNat : Nat) : Int) := by rw [u64w (by omega) (by omega)]; omega
        simp only [if_neg hn, em]
        refine Ev.bind (f := fun k t => _) (digits_ev n.toNat (by omega)) ?_
        unfold Lib.itoa
        rw [if_neg hn]
        exact Ev.now _
    simp only [if_neg k1]
    by_cases k2 : kd = 2
    · simp only [if_pos k2]
      have hs : s.size ≤ 256 := by
        unfold validV at hv
        rw [if_neg k1, if_pos k2] at hv
        simp at hv
        exact hv.2
      have hq := quoted_ev s.data.toList (by rw [data_len]; omega)
      rw [B_of] at hq
      exact Ev.bind (f := fun k t => _) hq (Ev.now _)
    · simp only [if_neg k2]
      cases b
      · simp only [Bool.false_eq_true, if_false]; exact Ev.now _
      · simp only [if_true]; exact Ev.now _
  · simp only [if_neg hv]
    unfold showV
    rw [if_pos (by simpa using hv)]
    exact Ev.now _
end Go.Proofs.YtpkbhfdfgapmlaaGreatDoor.Pv
end

/-! ## text PvRefRead -/
section
namespace Go.Proofs.YtpkbhfdfgapmlaaGreatDoor.Pv
open Go.RowKit Go.Proofs.YtpkbhfdfgapmlaaGreatDoor.Pu Go.Proofs.YtpkbhfdfgapmlaaGreatDoor.Pr Go.Proofs.YtpkbhfdfgapmlaaGreatDoorW.PrintWords Go.Proofs.YtpkbhfdfgapmlaaGreatDoorW.PrintLast Go.Proofs.YtpkbhfdfgapmlaaGreatDoorW.PrintMore
set_option linter.unusedVariables false
set_option linter.unusedSimpArgs false

/-- One byte more of a number. -/
def gs (x : Int) (c : UInt8) : Int := if 48 ≤ c.toNat ∧ c.toNat ≤ 57 then IntKind.u64.wrap (IntKind.u64.wrap (x * 10) + (((c.toNat : Int) - 48) % 256)) else x
def gfin (l : List UInt8) (x : Int) : Int × Int × ByteArray × Bool := if l.head? = some 45 then (1, wrap64 (IntKind.u64.wrap (-x)), ⟨#[]⟩, false) else (1, wrap64 x, ⟨#[]⟩, false)
theorem g_loop (l : List UInt8) (hN : l.length ≤ 140737488351232) : ∀ (rest pre : List UInt8) (x : Int), pre ++ rest = l → Ev (fun k => refrainref1_guessed.l0 k (B l) x (pre.length : Int)) (gfin l (rest.foldl gs x)) := by
  intro rest
  induction rest with
  | nil =>
    intro pre x hp
    have hl : pre.length = l.length := by rw [← hp]; simp
    refine Ev.step (fun k => refrainref1_guessed.l0.eq_2 _ _ _ k) ?_
    simp only [if_neg (show ¬ (pre.length : Int) < ((B l).size : Int) by rw [B_size]; omega), List.foldl_nil]
    unfold gfin
    cases l with
    | nil => simp only [if_neg (show ¬ ((B []).size : Int) > 0 by rw [B_size]; simp)]; exact Ev.now _
    | cons c t =>
      have hb : bt (B (c :: t)) 0 = (c.toNat : Int) := bt_mid [] c t
      simp only [if_pos (show ((B (c :: t)).size : Int) > 0 by rw [B_size]; simp only [List.length_cons]; omega), if_pos (show 0 < ((B (c :: t)).size : Int) by rw [B_size]; simp only [List.length_cons]; omega), hb, List.head?_cons, Option.some.injEq]
      by_cases h : c = 45
      · subst h; rw [if_pos rfl]; exact Ev.now _
      · rw [if_neg h]
        have : ¬ (c.toNat : Int) = 45 := fun e => h (UInt8.toNat_inj.1 (by have : c.toNat = 45 := by omega
                                                                           rw [this]; rfl))
        simp only [if_neg this]
        exact Ev.now _
  | cons c t ih =>
    intro pre x hp
    have hlen : pre.length + (t.length + 1) = l.length := by rw [← hp]; simp
    have hb : bt (B l) (pre.length : Int) = (c.toNat : Int) := by rw [← hp]; exact bt_mid pre c t
    have hw : wrap64 ((pre.length : Int) + 1) = ((pre ++ [c]).length : Int) := by rw [w64 (by omega) (by omega)]; simp
    have nx := fun y => ih (pre ++ [c]) y (by rw [List.append_assoc]; exact hp)
    refine Ev.step (fun k => refrainref1_guessed.l0.eq_2 _ _ _ k) ?_
    simp only [if_pos (show (pre.length : Int) < ((B l).size : Int) by rw [B_size]; omega), if_pos (show (0 : Int) ≤ (pre.length : Int) by omega), hb, hw, List.foldl_cons]
    by_cases h1 : 48 ≤ c.toNat
    · by_cases h2 : c.toNat ≤ 57
      · simp only [if_pos (show (c.toNat : Int) ≥ 48 by omega), if_pos (show (c.toNat : Int) ≤ 57 by omega)]
        have e : gs x c = IntKind.u64.wrap (IntKind.u64.wrap (x * 10) + (((c.toNat : Int) - 48) % 256)) := if_pos ⟨h1, h2⟩
        rw [e]; exact nx _
      · simp only [if_pos (show (c.toNat : Int) ≥ 48 by omega), if_neg (show ¬ (c.toNat : Int) ≤ 57 by omega)]
        have e : gs x c = x := if_neg (by omega)
        rw [e]; exact nx _
    · simp only [if_neg (show ¬ (c.toNat : Int) ≥ 48 by omega)]
      have e : gs x c = x := if_neg (by omega)
      rw [e]; exact nx _
theorem gs_dec : ∀ (m u : Nat), u ≤ m → u ≤ 18446744073709551615 → (Lib.decDigits u).foldl gs 0 = (u : Int) := by
  intro m
  induction m with
  | zero =>
    intro u h1 h2
    have : u = 0 := by omega
    subst this
    rw [Lib.decDigits, dif_pos (by omega)]
    show gs 0 48 = 0
    unfold gs
    rw [if_pos (by decide), u64w (n := 0 * 10) (by omega) (by omega)]
    rfl
  | succ m ih =>
    intro u h1 h2
    have one : ∀ (x d : Nat), d < 10 → x * 10 + d ≤ 18446744073709551615 → gs (x : Int) (UInt8.ofNat (48 + d)) = ((x * 10 + d : Nat) : Int) := fun x d hd hx => by
      unfold gs
      rw [digc d hd, if_pos (by omega), u64w (n := (x : Int) * 10) (by omega) (by omega), u64w (by omega) (by omega)]
      omega
    rw [Lib.decDigits]
    by_cases hu : u < 10
    · rw [dif_pos hu]
      show gs 0 (UInt8.ofNat (48 + u)) = (u : Int)
      have := one 0 u hu (by omega)
      simpa using this
    · rw [dif_neg hu, List.foldl_append, ih (u / 10) (by omega) (by omega)]
      show gs ((u / 10 : Nat) : Int) (UInt8.ofNat (48 + u % 10)) = (u : Int)
      rw [one (u / 10) (u % 10) (by omega) (by omega)]
      omega
/-- What the reference guesses: a number in range; of a number's text: the number. -/
def gP (l : List UInt8) : Int × Int × ByteArray × Bool := gfin l (l.foldl gs 0)
theorem guessed_ev (l : List UInt8) (hN : l.length ≤ 140737488351232) : Ev (fun k => refrainref1_guessed.f k (B l)) (gP l) := g_loop l hN l [] 0 rfl
theorem gP_shape (l : List UInt8) : ∃ n, gP l = (1, n, ⟨#[]⟩, false) ∧ -9223372036854775808 ≤ n ∧ n ≤ 9223372036854775807 := by
  have hw : ∀ z, -9223372036854775808 ≤ wrap64 z ∧ wrap64 z ≤ 9223372036854775807 := fun z => by unfold wrap64; omega
  unfold gP gfin
  split
  · exact ⟨_, rfl, hw _⟩
  · exact ⟨_, rfl, hw _⟩
theorem gP_itoa (n : Int) (h0 : -9223372036854775808 ≤ n) (h1 : n ≤ 9223372036854775807) : gP (Lib.itoa n) = (1, n, ⟨#[]⟩, false) := by
  unfold gP Lib.itoa
  by_cases hn : n < 0
  · rw [if_pos hn, List.foldl_cons, show gs 0 45 = 0 from if_neg (by decide), gs_dec _ n.natAbs (Nat.le_refl _) (by omega)]
    unfold gfin
    rw [List.head?_cons, if_pos rfl]
    have : wrap64 (IntKind.u64.wrap (-(n.natAbs : Int))) = n := by rw [IntKind.wrap_u64]; unfold wrap64; omega
    rw [this]
  · rw [if_neg hn, gs_dec _ n.toNat (Nat.le_refl _) (by omega)]
    unfold gfin
    obtain ⟨c, r, e, a, b⟩ := dec_cons n.toNat
    rw [e, List.head?_cons, if_neg (by intro h; have := Option.some.inj h; subst this; revert a; decide), w64 (by omega) (by omega)]
    congr 1
    congr 1
    omega
/-- A hexadecimal digit read. -/
theorem nib_all : ∀ n : Nat, n < 256 → refrainref1_nibble.f 20 (n : Int) = some (if 48 ≤ n ∧ n ≤ 57 then (n : Int) - 48 else if 97 ≤ n ∧ n ≤ 102 then (n : Int) - 87 else 0) := by decide +kernel
theorem bt_nat (s : ByteArray) (i : Int) : ∃ n : Nat, n < 256 ∧ bt s i = (n : Int) := by
  unfold bt
  split
  · exact ⟨_, UInt8.toNat_lt _, rfl⟩
  · exact ⟨0, by omega, rfl⟩
theorem nib_ev (n : Nat) (h : n < 256) : Ev (fun k => refrainref1_nibble.f k (n : Int)) (if 48 ≤ n ∧ n ≤ 57 then (n : Int) - 48 else if 97 ≤ n ∧ n ≤ 102 then (n : Int) - 87 else 0) := Ev.of (fun k => refrainref1_nibble.mono _ k) (nib_all n h)
theorem nib_tot (s : ByteArray) (i : Int) : ∃ r, Ev (fun k => refrainref1_nibble.f k (bt s i)) r := by
  obtain ⟨n, h, e⟩ := bt_nat s i
  rw [e]
  exact ⟨_, nib_ev n h⟩
theorem hexd_all : ∀ n : Nat, n < 16 → (hexd n).toNat < 256 ∧ (if 48 ≤ (hexd n).toNat ∧ (hexd n).toNat ≤ 57 then ((hexd n).toNat : Int) - 48 else if 97 ≤ (hexd n).toNat ∧ (hexd n).toNat ≤ 102 then ((hexd n).toNat : Int) - 87 else 0) = (n : Int) := by decide +kernel
theorem nib_hex (n : Nat) (h : n < 16) : Ev (fun k => refrainref1_nibble.f k ((hexd n).toNat : Int)) (n : Int) := by
  obtain ⟨a, b⟩ := hexd_all n h
  have := nib_ev _ a
  rw [b] at this
  exact this
theorem unq_tot (s : ByteArray) (hs : s.size ≤ 1026) (h0 : 1 ≤ s.size) : ∀ (m i : Nat) (acc : List Int), s.size + 1 - i ≤ m → acc.length ≤ i → i ≤ 5000 → ∃ r, Ev (fun k => refrainref1_unquoted.l0 k s acc (i : Int)) (2, 0, r, false) := by
  have e1 : wrap64 ((s.size : Int) - 1) = (s.size : Int) - 1 := w64 (by omega) (by omega)
  have stop : ∀ (i : Nat) (acc : List Int), ¬ (i : Int) < (s.size : Int) - 1 → ∃ r, Ev (fun k => refrainref1_unquoted.l0 k s acc (i : Int)) (2, 0, r, false) := fun i acc h => by
    refine ⟨strOfNums acc, Ev.step (fun k => refrainref1_unquoted.l0.eq_2 _ _ _ k) ?_⟩
    simp only [e1, if_neg h]
    exact Ev.now _
  intro m
  induction m with
  | zero => intro i acc hm _ _; exact stop i acc (by omega)
  | succ m ih =>
    intro i acc hm ha hi
    by_cases hlt : (i : Int) < (s.size : Int) - 1
    · have w1 : wrap64 ((i : Int) + 1) = ((i + 1 : Nat) : Int) := by rw [w64 (by omega) (by omega)]; omega
      have one : ∀ x : Int, ∃ r, Ev (fun k => refrainref1_unquoted.l0 k s (acc ++ [x]) ((i + 1 : Nat) : Int)) (2, 0, r, false) := fun x => ih (i + 1) _ (by omega) (by simp; omega) (by omega)
      have two : ∀ x : Int, ∃ r, Ev (fun k => refrainref1_unquoted.l0 k s (acc ++ [x]) ((i + 2 : Nat) : Int)) (2, 0, r, false) := fun x => ih (i + 2) _ (by omega) (by simp; omega) (by omega)
      have four : ∀ x : Int, ∃ r, Ev (fun k => refrainref1_unquoted.l0 k s (acc ++ [x]) ((i + 4 : Nat) : Int)) (2, 0, r, false) := fun x => ih (i + 4) _ (by omega) (by simp; omega) (by omega)
      have w2 : wrap64 (((i + 1 : Nat) : Int) + 1) = ((i + 2 : Nat) : Int) := by rw [w64 (by omega) (by omega)]; omega
      have w3 : wrap64 (((i + 1 : Nat) : Int) + 2) = ((i + 3 : Nat) : Int) := by rw [w64 (by omega) (by omega)]; omega
      have w4 : wrap64 (((i + 3 : Nat) : Int) + 1) = ((i + 4 : Nat) : Int) := by rw [w64 (by omega) (by omega)]; omega
      have j1t : ∀ x : Int, ∃ r, Ev (fun k => refrainref1_unquoted.j1 k s acc (i : Int) x true) (2, 0, r, false) := fun x => by
        obtain ⟨r, h⟩ := one x
        refine ⟨r, Ev.step (fun k => refrainref1_unquoted.j1.eq_2 _ _ _ _ _ k) ?_⟩
        simp only [if_pos, if_pos (show acc.length < 140737488355328 by omega), w1]
        exact h
      by_cases h92 : bt s (i : Int) = 92
      · by_cases hf : ((i + 1 : Nat) : Int) ≥ (s.size : Int) - 1
        · obtain ⟨r, h⟩ := j1t (bt s (i : Int))
          refine ⟨r, Ev.step (fun k => refrainref1_unquoted.l0.eq_2 _ _ _ k) ?_⟩
          simp only [e1, if_pos hlt, if_pos (show (0 : Int) ≤ (i : Int) by omega), if_pos (show (i : Int) < (s.size : Int) by omega), if_pos h92, w1, decide_eq_true hf]
          exact h
        · have st : ∀ r, Ev (fun k => refrainref1_unquoted.j1 k s acc (i : Int) (bt s (i : Int)) false) (2, 0, r, false) → Ev (fun k => refrainref1_unquoted.l0 k s acc (i : Int)) (2, 0, r, false) := fun r h => by
            refine Ev.step (fun k => refrainref1_unquoted.l0.eq_2 _ _ _ k) ?_
            simp only [e1, if_pos hlt, if_pos (show (0 : Int) ≤ (i : Int) by omega), if_pos (show (i : Int) < (s.size : Int) by omega), if_pos h92, w1, decide_eq_false hf]
            exact h
          have st2 : ∀ f : Bool, ∃ r, Ev (fun k => refrainref1_unquoted.j2 k s acc ((i + 1 : Nat) : Int) (decide (((i + 3 : Nat) : Int) < (s.size : Int)) && f)) (2, 0, r, false) := fun f => by
            by_cases h3 : ((i + 3 : Nat) : Int) < (s.size : Int) ∧ f = true
            · obtain ⟨a, ea⟩ := nib_tot s ((i + 2 : Nat) : Int)
              obtain ⟨b, eb⟩ := nib_tot s ((i + 3 : Nat) : Int)
              obtain ⟨r, h⟩ := four ((wrap64 ((wrap64 (a * 16)) + b)) % 256)
              refine ⟨r, Ev.step (fun k => refrainref1_unquoted.j2.eq_2 _ _ _ _ k) ?_⟩
              simp only [decide_eq_true h3.1, h3.2, Bool.and_self, if_pos, w2, w3, if_pos (show (0 : Int) ≤ ((i + 2 : Nat) : Int) by omega), if_pos (show ((i + 2 : Nat) : Int) < (s.size : Int) by omega)]
              refine Ev.bind (f := fun k t => _) ea ?_
              simp only [if_pos (show (0 : Int) ≤ ((i + 3 : Nat) : Int) by omega), if_pos h3.1]
              refine Ev.bind (f := fun k t => _) eb ?_
              simp only [if_pos (show acc.length < 140737488355328 by omega), w4]
              exact h
            · obtain ⟨r, h⟩ := two (bt s ((i + 1 : Nat) : Int))
              have hfalse : (decide (((i + 3 : Nat) : Int) < (s.size : Int)) && f) = false := by
                rw [← Bool.not_eq_true]
                intro e
                exact h3 (by simpa using e)
              refine ⟨r, Ev.step (fun k => refrainref1_unquoted.j2.eq_2 _ _ _ _ k) ?_⟩
              simp only [hfalse, Bool.false_eq_true, if_false, if_pos (show (0 : Int) ≤ ((i + 1 : Nat) : Int) by omega), if_pos (show ((i + 1 : Nat) : Int) < (s.size : Int) by omega), if_pos (show acc.length < 140737488355328 by omega), w2]
              exact h
          by_cases b110 : bt s ((i + 1 : Nat) : Int) = 110
          · obtain ⟨r, h⟩ := two 10
            refine ⟨r, st r (Ev.step (fun k => refrainref1_unquoted.j1.eq_2 _ _ _ _ _ k) ?_)⟩
            simp only [Bool.false_eq_true, if_false, w1, if_pos (show (0 : Int) ≤ ((i + 1 : Nat) : Int) by omega), if_pos (show ((i + 1 : Nat) : Int) < (s.size : Int) by omega), if_pos b110, if_pos (show acc.length < 140737488355328 by omega), w2]
            exact h
          by_cases b116 : bt s ((i + 1 : Nat) : Int) = 116
          · obtain ⟨r, h⟩ := two 9
            refine ⟨r, st r (Ev.step (fun k => refrainref1_unquoted.j1.eq_2 _ _ _ _ _ k) ?_)⟩
            simp only [Bool.false_eq_true, if_false, w1, if_pos (show (0 : Int) ≤ ((i + 1 : Nat) : Int) by omega), if_pos (show ((i + 1 : Nat) : Int) < (s.size : Int) by omega), if_neg b110, if_pos b116, if_pos (show acc.length < 140737488355328 by omega), w2]
            exact h
          by_cases b120 : bt s ((i + 1 : Nat) : Int) = 120
          · obtain ⟨r, h⟩ := st2 true
            refine ⟨r, st r (Ev.step (fun k => refrainref1_unquoted.j1.eq_2 _ _ _ _ _ k) ?_)⟩
            simp only [Bool.and_true] at h
            simp only [Bool.false_eq_true, if_false, w1, if_pos (show (0 : Int) ≤ ((i + 1 : Nat) : Int) by omega), if_pos (show ((i + 1 : Nat) : Int) < (s.size : Int) by omega), if_neg b110, if_neg b116, if_pos b120, w3]
            exact h
          · obtain ⟨r, h⟩ := st2 false
            refine ⟨r, st r (Ev.step (fun k => refrainref1_unquoted.j1.eq_2 _ _ _ _ _ k) ?_)⟩
            simp only [Bool.and_false] at h
            simp only [Bool.false_eq_true, if_false, w1, if_pos (show (0 : Int) ≤ ((i + 1 : Nat) : Int) by omega), if_pos (show ((i + 1 : Nat) : Int) < (s.size : Int) by omega), if_neg b110, if_neg b116, if_neg b120]
            exact h
      · obtain ⟨r, h⟩ := j1t (bt s (i : Int))
        refine ⟨r, Ev.step (fun k => refrainref1_unquoted.l0.eq_2 _ _ _ k) ?_⟩
        simp only [e1, if_pos hlt, if_pos (show (0 : Int) ≤ (i : Int) by omega), if_pos (show (i : Int) < (s.size : Int) by omega), if_neg h92]
        exact h
    · exact stop i acc hlt
theorem qv_pos (c : UInt8) : 1 ≤ (qv c).length := by unfold qv; repeat' split
                                                     all_goals simp
theorem W1 (i : Nat) (h : i ≤ 5000) : wrap64 ((i : Int) + 1) = ((i + 1 : Nat) : Int) := by rw [w64 (by omega) (by omega)]; omega
theorem W2 (i : Nat) (h : i ≤ 5000) : wrap64 (((i + 1 : Nat) : Int) + 1) = ((i + 2 : Nat) : Int) := by rw [w64 (by omega) (by omega)]; omega
theorem W3 (i : Nat) (h : i ≤ 5000) : wrap64 (((i + 1 : Nat) : Int) + 2) = ((i + 3 : Nat) : Int) := by rw [w64 (by omega) (by omega)]; omega
theorem W4 (i : Nat) (h : i ≤ 5000) : wrap64 (((i + 3 : Nat) : Int) + 1) = ((i + 4 : Nat) : Int) := by rw [w64 (by omega) (by omega)]; omega
theorem E1 (l : List UInt8) (h : l.length ≤ 1026) (h1 : 1 ≤ l.length) : wrap64 (((B l).size : Int) - 1) = (l.length : Int) - 1 := by rw [B_size]; exact w64 (by omega) (by omega)
set_option maxHeartbeats 4000000 in
/-- Reading back a string as it is written: one byte. -/
theorem unq_one (l : List UInt8) (hN : l.length ≤ 1026) (c : UInt8) (i : Nat) (acc tl : List UInt8) (hd : l.drop i = qv c ++ (tl ++ [34])) (ha : acc.length ≤ i) (R : Int × Int × ByteArray × Bool)
    (nx : Ev (fun k => refrainref1_unquoted.l0 k (B l) (nat8 (acc ++ [c])) ((i + (qv c).length : Nat) : Int)) R) : Ev (fun k => refrainref1_unquoted.l0 k (B l) (nat8 acc) (i : Int)) R := by
  have hsz : (B l).size = l.length := B_size l
  have hlen := drop_len hd
  simp only [List.length_append, List.length_cons, List.length_nil] at hlen
  have hal := nat8_len acc
  have hq1 := qv_pos c
  obtain ⟨q, hq⟩ : ∃ q, q = (qv c).length := ⟨_, rfl⟩
  rw [← hq] at hlen hq1 nx
  have hqA := Aside0.mk hq
  clear hq
  have hdA := Aside0.mk hd
  clear hd
  have hlt : c.toNat < 256 := c.toNat_lt
  have ac : nat8 (acc ++ [c]) = nat8 acc ++ [(c.toNat : Int)] := nat8_snoc acc c
  rw [ac] at nx
  have hi5 : i ≤ 5000 := by omega
  have g0 : (i : Int) < (l.length : Int) - 1 := by omega
  have st : ∀ b : Bool, (if bt (B l) (i : Int) = 92 then decide (((i + 1 : Nat) : Int) ≥ (l.length : Int) - 1) else true) = b → Ev (fun k => refrainref1_unquoted.j1 k (B l) (nat8 acc) (i : Int) (bt (B l) (i : Int)) b) R → Ev (fun k => refrainref1_unquoted.l0 k (B l) (nat8 acc) (i : Int)) R := fun b hb h => by
    refine Ev.step (fun k => refrainref1_unquoted.l0.eq_2 _ _ _ k) ?_
    simp only [E1 l hN (by omega), if_pos g0, if_pos (show (0 : Int) ≤ (i : Int) by omega), if_pos (show (i : Int) < ((B l).size : Int) by omega), W1 i hi5]
    by_cases h92 : bt (B l) (i : Int) = 92
    · rw [if_pos h92] at hb
      simp only [if_pos h92, hb]
      rw [h92] at h ⊢
      exact h
    · rw [if_neg h92] at hb
      simp only [if_neg h92, hb]
      exact h
  by_cases hp : qv c = [c] ∧ c.toNat ≠ 92
  · have hd := hdA.out
    have hq := hqA.out
    rw [hp.1] at hd hq
    rw [hq] at nx
    have hb : bt (B l) (i : Int) = (c.toNat : Int) := bt_at2 l i c _ hd
    refine st true (if_neg (by rw [hb]; omega)) (Ev.step (fun k => refrainref1_unquoted.j1.eq_2 _ _ _ _ _ k) ?_)
    simp only [if_pos, if_pos (show (nat8 acc).length < 140737488355328 by omega), W1 i hi5, hb]
    exact nx
  -- an escaped byte
  obtain ⟨x, t, eq, htl⟩ : ∃ x t, qv c = 92 :: x :: t ∧ ((t = [] ∧ ((x = c ∧ (c.toNat = 34 ∨ c.toNat = 92)) ∨ (x = 110 ∧ c.toNat = 10) ∨ (x = 116 ∧ c.toNat = 9))) ∨ (x = 120 ∧ t = [hexd (c.toNat / 16), hexd (c.toNat % 16)])) := by
    unfold qv at hp ⊢
    by_cases a : c.toNat = 34 ∨ c.toNat = 92
    · rw [if_pos a]; exact ⟨_, _, rfl, .inl ⟨rfl, .inl ⟨rfl, a⟩⟩⟩
    rw [if_neg a] at hp ⊢
    by_cases b : c.toNat = 10
    · rw [if_pos b]; exact ⟨_, _, rfl, .inl ⟨rfl, .inr (.inl ⟨rfl, b⟩)⟩⟩
    rw [if_neg b] at hp ⊢
    by_cases d : c.toNat = 9
    · rw [if_pos d]; exact ⟨_, _, rfl, .inl ⟨rfl, .inr (.inr ⟨rfl, d⟩)⟩⟩
    rw [if_neg d] at hp ⊢
    by_cases e : c.toNat < 32 ∨ 126 < c.toNat
    · rw [if_pos e]; exact ⟨_, _, rfl, .inr ⟨rfl, rfl⟩⟩
    · rw [if_neg e] at hp; exact absurd ⟨rfl, by omega⟩ hp
  have hd := hdA.out
  have hq := hqA.out
  rw [eq] at hd hq
  clear hqA hdA eq hp
  rw [List.length_cons, List.length_cons] at hq
  have hb : bt (B l) (i : Int) = 92 := bt_at2 l i 92 _ hd
  obtain ⟨hd1, _⟩ := drop_next hd
  have hb1 : bt (B l) ((i + 1 : Nat) : Int) = (x.toNat : Int) := bt_at2 l (i + 1) x _ hd1
  refine st false (by rw [if_pos hb]; exact decide_eq_false (by omega)) (Ev.step (fun k => refrainref1_unquoted.j1.eq_2 _ _ _ _ _ k) ?_)
  simp only [Bool.false_eq_true, if_false, W1 i hi5, if_pos (show (0 : Int) ≤ ((i + 1 : Nat) : Int) by omega), if_pos (show ((i + 1 : Nat) : Int) < ((B l).size : Int) by omega), hb1, if_pos (show (nat8 acc).length < 140737488355328 by omega), W2 i hi5, W3 i hi5]
  rcases htl with ⟨rfl, h⟩ | ⟨rfl, rfl⟩
  · rw [hq] at nx
    simp only [List.length_nil] at nx
    rcases h with ⟨rfl, h⟩ | ⟨rfl, h⟩ | ⟨rfl, h⟩
    · simp only [if_neg (show ¬ (x.toNat : Int) = 110 by omega), if_neg (show ¬ (x.toNat : Int) = 116 by omega), if_neg (show ¬ (x.toNat : Int) = 120 by omega)]
      refine Ev.step (fun k => refrainref1_unquoted.j2.eq_2 _ _ _ _ k) ?_
      simp only [Bool.false_eq_true, if_false, if_pos (show (0 : Int) ≤ ((i + 1 : Nat) : Int) by omega), if_pos (show ((i + 1 : Nat) : Int) < ((B l).size : Int) by omega), hb1, if_pos (show (nat8 acc).length < 140737488355328 by omega), W2 i hi5]
      exact nx
    · have e110 : (((110 : UInt8).toNat : Nat) : Int) = 110 := rfl
      simp only [e110, if_pos]
      rw [h] at nx
      exact nx
    · have e116 : (((116 : UInt8).toNat : Nat) : Int) = 116 := rfl
      simp only [e116, if_neg (show ¬ (116 : Int) = 110 by omega), if_pos]
      rw [h] at nx
      exact nx
  · have e120 : (((120 : UInt8).toNat : Nat) : Int) = 120 := rfl
    rw [hq] at nx
    simp only [List.length_cons, List.length_nil] at nx hlen hq
    obtain ⟨hd2, _⟩ := drop_next hd1
    obtain ⟨hd3, _⟩ := drop_next hd2
    have hb2 : bt (B l) ((i + 2 : Nat) : Int) = ((hexd (c.toNat / 16)).toNat : Int) := bt_at2 l (i + 1 + 1) _ _ hd2
    have hb3 : bt (B l) ((i + 3 : Nat) : Int) = ((hexd (c.toNat % 16)).toNat : Int) := bt_at2 l (i + 1 + 1 + 1) _ _ hd3
    simp only [e120, if_neg (show ¬ (120 : Int) = 110 by omega), if_neg (show ¬ (120 : Int) = 116 by omega), if_pos]
    refine Ev.step (fun k => refrainref1_unquoted.j2.eq_2 _ _ _ _ k) ?_
    simp only [decide_eq_true (show ((i + 3 : Nat) : Int) < ((B l).size : Int) by omega), if_pos, W2 i hi5, W3 i hi5, if_pos (show (0 : Int) ≤ ((i + 2 : Nat) : Int) by omega), if_pos (show ((i + 2 : Nat) : Int) < ((B l).size : Int) by omega), hb2]
    refine Ev.bind (f := fun k t => _) (nib_hex (c.toNat / 16) (by omega)) ?_
    simp only [if_pos (show (0 : Int) ≤ ((i + 3 : Nat) : Int) by omega), if_pos (show ((i + 3 : Nat) : Int) < ((B l).size : Int) by omega), hb3]
    refine Ev.bind (f := fun k t => _) (nib_hex (c.toNat % 16) (by omega)) ?_
    have ev : (wrap64 ((wrap64 (((c.toNat / 16 : Nat) : Int) * 16)) + ((c.toNat % 16 : Nat) : Int))) % 256 = (c.toNat : Int) := by
      rw [w64 (n := ((c.toNat / 16 : Nat) : Int) * 16) (by omega) (by omega), w64 (by omega) (by omega)]; omega
    simp only [if_pos (show (nat8 acc).length < 140737488355328 by omega), W4 i hi5, ev]
    exact nx
theorem unq_all (l : List UInt8) (hN : l.length ≤ 1026) : ∀ (rest acc : List UInt8) (i : Nat), l.drop i = rest.flatMap qv ++ [34] → acc.length ≤ i →
    Ev (fun k => refrainref1_unquoted.l0 k (B l) (nat8 acc) (i : Int)) (2, 0, B (acc ++ rest), false) := by
  intro rest
  induction rest with
  | nil =>
    intro acc i hd ha
    have hlen := drop_len hd
    simp at hlen
    have hsz : (B l).size = l.length := B_size l
    have e1 : wrap64 (((B l).size : Int) - 1) = ((l.length : Int) - 1) := by rw [hsz]; exact w64 (by omega) (by omega)
    refine Ev.step (fun k => refrainref1_unquoted.l0.eq_2 _ _ _ k) ?_
    simp only [e1, if_neg (show ¬ (i : Int) < (l.length : Int) - 1 by omega), son, List.append_nil]
    exact Ev.now _
  | cons c t ih =>
    intro acc i hd ha
    have e : (c :: t).flatMap qv ++ [34] = qv c ++ (t.flatMap qv ++ [34]) := by simp
    rw [e] at hd
    have hq1 := qv_pos c
    have hd2 : l.drop (i + (qv c).length) = t.flatMap qv ++ [34] := by rw [← List.drop_drop, hd, List.drop_left]
    have nx := ih (acc ++ [c]) (i + (qv c).length) hd2 (by rw [List.length_append]; exact Nat.add_le_add ha hq1)
    have e2 : acc ++ [c] ++ t = acc ++ c :: t := by simp
    rw [e2] at nx
    exact unq_one l hN c i acc (t.flatMap qv) hd ha _ nx
theorem refunq_qvs (s : List UInt8) (h : (qvs s).length ≤ 1026) : Ev (fun k => refrainref1_unquoted.f k (B (qvs s))) (2, 0, B s, false) := by
  have := unq_all (qvs s) h s [] 1 (by simp [qvs]) (by simp)
  exact this
/-- The three shapes of a value and of its text. -/
theorem show_shape (x : SV) (h : okV x = true) : (x.f0 = 1 ∧ x.f2 = ⟨#[]⟩ ∧ x.f3 = false ∧ showV x.f0 x.f1 x.f2 x.f3 = (B (Lib.itoa x.f1), 0)) ∨ (x.f0 = 2 ∧ x.f1 = 0 ∧ x.f3 = false ∧ x.f2.size ≤ 256 ∧ showV x.f0 x.f1 x.f2 x.f3 = (B (qvs x.f2.data.toList), 0)) ∨
    (x.f0 = 3 ∧ x.f1 = 0 ∧ x.f2 = ⟨#[]⟩ ∧ showV x.f0 x.f1 x.f2 x.f3 = (if x.f3 then ⟨#[84, 82, 85, 69]⟩ else ⟨#[70, 65, 76, 83, 69]⟩, 0)) := by
  obtain ⟨kd, n, s, b⟩ := x
  have hv : validV kd n s b = true := h
  have hn : ¬ validV kd n s b = false := by rw [hv]; simp
  show (kd = 1 ∧ s = _ ∧ b = _ ∧ showV kd n s b = _) ∨ (kd = 2 ∧ n = 0 ∧ b = false ∧ s.size ≤ 256 ∧ showV kd n s b = _) ∨ (kd = 3 ∧ n = 0 ∧ s = _ ∧ showV kd n s b = _)
  unfold showV
  rw [if_neg hn]
  unfold validV at hv
  by_cases k1 : kd = 1
  · rw [if_pos k1] at hv ⊢
    rw [Bool.and_eq_true] at hv
    exact .inl ⟨k1, empty_of hv.1, by simpa using hv.2, rfl⟩
  rw [if_neg k1] at hv ⊢
  by_cases k2 : kd = 2
  · rw [if_pos k2] at hv ⊢
    simp at hv
    exact .inr (.inl ⟨k2, hv.1.1, hv.1.2, hv.2, rfl⟩)
  rw [if_neg k2] at hv ⊢
  by_cases k3 : kd = 3
  · rw [if_pos k3, Bool.and_eq_true] at hv
    exact .inr (.inr ⟨k3, by simpa using hv.1, empty_of hv.2, rfl⟩)
  · rw [if_neg k3] at hv; cases hv
theorem read_fail {l : List UInt8} (h : (readP l).2.2.2.2 ≠ 0) : readP l = (0, 0, ⟨#[]⟩, false, 12) := by
  unfold readP at h ⊢
  dsimp only at h ⊢
  split
  · rename_i hc; rw [if_pos hc] at h; exact absurd rfl h
  · rfl
/-- Where the guess is the only value that could be shown so: to look at the guess's text is to read. -/
theorem try_ev (l : List UInt8) (v : SV) (hn : -9223372036854775808 ≤ v.f1 ∧ v.f1 ≤ 9223372036854775807) (only : ∀ w : SV, okV w = true → (-9223372036854775808 ≤ w.f1 ∧ w.f1 ≤ 9223372036854775807) → showV w.f0 w.f1 w.f2 w.f3 = (B l, 0) → w = v) :
    (if (showV v.f0 v.f1 v.f2 v.f3).2 = 0 then (if (showV v.f0 v.f1 v.f2 v.f3).1.toList = (B l).toList then (v.f0, v.f1, v.f2, v.f3, (0 : Int)) else (0, 0, (⟨#[]⟩ : ByteArray), false, 12)) else (0, 0, (⟨#[]⟩ : ByteArray), false, 12)) = readP l := by
  by_cases h : (showV v.f0 v.f1 v.f2 v.f3).2 = 0 ∧ (showV v.f0 v.f1 v.f2 v.f3).1.toList = (B l).toList
  · rw [if_pos h.1, if_pos h.2]
    have hv : validV v.f0 v.f1 v.f2 v.f3 = true := by
      cases e : validV v.f0 v.f1 v.f2 v.f3 with
      | true => rfl
      | false => have h1 := h.1; unfold showV at h1; rw [if_pos e] at h1; exact absurd h1 (by decide)
    have hr := (read_show v.f0 v.f1 v.f2 v.f3 hv hn.1 hn.2).1
    have e : (showV v.f0 v.f1 v.f2 v.f3).1.data.toList = l := by rw [← tl_data, h.2, B_toList]
    rw [e] at hr
    exact hr.symm
  · have hf : (readP l).2.2.2.2 ≠ 0 := fun e => by
      obtain ⟨a, b, c1, c2⟩ := read_ok e
      have := only ⟨(readP l).1, (readP l).2.1, (readP l).2.2.1, (readP l).2.2.2.1⟩ b ⟨c1, c2⟩ a
      apply h
      rw [← this]
      exact ⟨by rw [a], by rw [a]⟩
    rw [read_fail hf]
    split
    · split
      · rename_i a b; exact absurd ⟨a, b⟩ h
      · rfl
    · rfl
theorem text_size (x : SV) (h : okV x = true) (hn : -9223372036854775808 ≤ x.f1 ∧ x.f1 ≤ 9223372036854775807) (l : List UInt8) (e : showV x.f0 x.f1 x.f2 x.f3 = (B l, 0)) : 1 ≤ l.length ∧ l.length ≤ 1026 := by
  rcases show_shape x h with ⟨_, _, _, s⟩ | ⟨_, _, _, hs, s⟩ | ⟨_, _, _, s⟩
  · rw [s] at e
    have e1 : Lib.itoa x.f1 = l := B_inj (congrArg Prod.fst e)
    obtain ⟨c, r, a, _⟩ := itoa_head x.f1
    have := Lib.itoa_length_le x.f1 hn.1 hn.2
    rw [← e1]
    exact ⟨by rw [a, List.length_cons]; omega, by omega⟩
  · rw [s] at e
    have e1 : qvs x.f2.data.toList = l := B_inj (congrArg Prod.fst e)
    have f := fm_len x.f2.data.toList
    have d := data_len x.f2
    rw [← e1]
    unfold qvs
    simp only [List.length_cons, List.length_append, List.length_nil]
    omega
  · rw [s] at e
    have e1 : (if x.f3 then (⟨#[84, 82, 85, 69]⟩ : ByteArray) else ⟨#[70, 65, 76, 83, 69]⟩) = B l := congrArg Prod.fst e
    have : (if x.f3 then ([84, 82, 85, 69] : List UInt8) else [70, 65, 76, 83, 69]) = l := by
      have h2 := congrArg (fun s => s.data.toList) e1
      rw [B_data] at h2
      rw [← h2]
      split <;> rfl
    rw [← this]
    split <;> decide
/-- The first byte of a value's text. -/
theorem text_head (x : SV) (h : okV x = true) (c : UInt8) (t : List UInt8) (e : showV x.f0 x.f1 x.f2 x.f3 = (B (c :: t), 0)) :
    (x.f0 = 1 ∧ x.f2 = ⟨#[]⟩ ∧ x.f3 = false ∧ Lib.itoa x.f1 = c :: t ∧ (c.toNat = 45 ∨ 48 ≤ c.toNat ∧ c.toNat ≤ 57)) ∨ (x.f0 = 2 ∧ x.f1 = 0 ∧ x.f3 = false ∧ qvs x.f2.data.toList = c :: t ∧ c.toNat = 34) ∨ (x = ⟨3, 0, ⟨#[]⟩, true⟩ ∧ c.toNat = 84) ∨ (x = ⟨3, 0, ⟨#[]⟩, false⟩ ∧ c.toNat = 70) := by
  rcases show_shape x h with ⟨a, b, d, s⟩ | ⟨a, b, d, hs, s⟩ | ⟨a, b, d, s⟩
  · rw [s] at e
    have e1 : Lib.itoa x.f1 = c :: t := B_inj (congrArg Prod.fst e)
    obtain ⟨c', r, q, hc⟩ := itoa_head x.f1
    have : c' = c := by rw [q] at e1; exact (List.cons.inj e1).1
    subst this
    exact .inl ⟨a, b, d, e1, hc⟩
  · rw [s] at e
    have e1 : qvs x.f2.data.toList = c :: t := B_inj (congrArg Prod.fst e)
    have : (34 : UInt8) = c := (List.cons.inj e1).1
    exact .inr (.inl ⟨a, b, d, e1, by rw [← this]; rfl⟩)
  · rw [s] at e
    obtain ⟨x0, x1, x2, x3⟩ := x
    dsimp only at a b d e
    subst a; subst b; subst d
    have e1 := congrArg (fun s => s.data.toList) (congrArg Prod.fst e)
    cases x3
    · have : (70 : UInt8) = c := (List.cons.inj e1).1
      exact .inr (.inr (.inr ⟨rfl, by rw [← this]; rfl⟩))
    · have : (84 : UInt8) = c := (List.cons.inj e1).1
      exact .inr (.inr (.inl ⟨rfl, by rw [← this]; rfl⟩))
/-- The reference reads what the program reads. -/
theorem refread_ev (l : List UInt8) (hl : l.length ≤ 140737488351232) : Ev (fun k => refrainref1_Read.f k (B l)) (readP l) := by
  have bad : (l.length > 1026 ∨ l = []) → readP l = (0, 0, ⟨#[]⟩, false, 12) := fun h => by
    apply read_fail
    intro e
    obtain ⟨a, b, c1, c2⟩ := read_ok e
    have := text_size ⟨(readP l).1, (readP l).2.1, (readP l).2.2.1, (readP l).2.2.2.1⟩ b ⟨c1, c2⟩ l a
    rcases h with h | h
    · omega
    · subst h; simp at this
  unfold refrainref1_Read.f
  by_cases hbig : l.length > 1026
  · simp only [if_pos (show ((B l).size : Int) > 1026 by rw [B_size]; omega)]
    refine Ev.step (fun k => refrainref1_Read.j0.eq_2 _ _ k) ?_
    simp only [if_pos]
    rw [bad (.inl hbig)]
    exact Ev.now _
  simp only [if_neg (show ¬ ((B l).size : Int) > 1026 by rw [B_size]; omega), B_toList]
  cases l with
  | nil =>
    refine Ev.step (fun k => refrainref1_Read.j0.eq_2 _ _ k) ?_
    simp only [beq_self_eq_true, if_pos]
    rw [bad (.inr rfl)]
    exact Ev.now _
  | cons c t =>
    have hne : ((c :: t : List UInt8) == []) = false := rfl
    have hsz : (B (c :: t)).size = t.length + 1 := by rw [B_size]; rfl
    have hlt : t.length + 1 ≤ 1026 := by have h := hbig; rw [List.length_cons] at h; omega
    have hb : bt (B (c :: t)) 0 = (c.toNat : Int) := bt_mid [] c t
    rw [hne]
    refine Ev.step (fun k => refrainref1_Read.j0.eq_2 _ _ k) ?_
    simp only [Bool.false_eq_true, if_false]
    refine Ev.bind (f := fun k t => _) (guessed_ev (c :: t) hl) ?_
    simp only [if_pos (show 0 < ((B (c :: t)).size : Int) by rw [hsz]; omega), hb]
    by_cases h34 : (c.toNat : Int) = 34
    · simp only [if_pos h34]
      have tot : ∃ r, Ev (fun k => refrainref1_unquoted.f k (B (c :: t))) (2, 0, r, false) := unq_tot (B (c :: t)) (by rw [hsz]; omega) (by rw [hsz]; omega) _ 1 [] (Nat.le_refl _) (by simp) (by omega)
      obtain ⟨r, hr⟩ := tot
      refine Ev.bind (f := fun k t => _) hr ?_
      refine Ev.bind (f := fun k t => _) (refshow_ev 2 0 r false (by omega) (by omega)) ?_
      have := try_ev (c :: t) ⟨2, 0, r, false⟩ ⟨by show (-9223372036854775808 : Int) ≤ 0; omega, by show (0 : Int) ≤ 9223372036854775807; omega⟩ (fun w hw wr e => by
        rcases text_head w hw c t e with ⟨_, _, _, _, h⟩ | ⟨a, b, d, q, _⟩ | ⟨_, h⟩ | ⟨_, h⟩
        · omega
        · have h1 := refunq_qvs w.f2.data.toList (by rw [q, List.length_cons]; exact hlt)
          rw [q] at h1
          obtain ⟨k1, e1⟩ := hr
          obtain ⟨k2, e2⟩ := h1
          have e3 := (e1 (k1 + k2) (by omega)).symm.trans (e2 (k1 + k2) (by omega))
          have e4 : r = w.f2 := by
            have := congrArg (fun (o : Option (Int × Int × ByteArray × Bool)) => (o.getD (0, 0, ⟨#[]⟩, false)).2.2.1) e3
            simpa [B_of] using this
          obtain ⟨w0, w1, w2, w3⟩ := w
          dsimp only at a b d e4
          subst a; subst b; subst d; subst e4
          rfl
        · omega
        · omega)
      dsimp only at this ⊢
      refine Ev.congr (f := fun _ => some (readP (c :: t))) (fun k => ?_) (Ev.now _)
      rw [← this]
      repeat' split
      all_goals rfl
    simp only [if_neg h34]
    by_cases h84 : (c.toNat : Int) = 84
    · simp only [if_pos h84]
      refine Ev.bind (f := fun k t => _) (refshow_ev 3 0 ⟨#[]⟩ true (by omega) (by omega)) ?_
      have := try_ev (c :: t) ⟨3, 0, ⟨#[]⟩, true⟩ ⟨by show (-9223372036854775808 : Int) ≤ 0; omega, by show (0 : Int) ≤ 9223372036854775807; omega⟩ (fun w hw wr e => by
        rcases text_head w hw c t e with ⟨_, _, _, _, h⟩ | ⟨_, _, _, _, h⟩ | ⟨h, _⟩ | ⟨_, h⟩
        · omega
        · omega
        · exact h
        · omega)
      dsimp only at this ⊢
      refine Ev.congr (f := fun _ => some (readP (c :: t))) (fun k => ?_) (Ev.now _)
      rw [← this]
      repeat' split
      all_goals rfl
    simp only [if_neg h84]
    by_cases h70 : (c.toNat : Int) = 70
    · simp only [if_pos h70]
      refine Ev.bind (f := fun k t => _) (refshow_ev 3 0 ⟨#[]⟩ false (by omega) (by omega)) ?_
      have := try_ev (c :: t) ⟨3, 0, ⟨#[]⟩, false⟩ ⟨by show (-9223372036854775808 : Int) ≤ 0; omega, by show (0 : Int) ≤ 9223372036854775807; omega⟩ (fun w hw wr e => by
        rcases text_head w hw c t e with ⟨_, _, _, _, h⟩ | ⟨_, _, _, _, h⟩ | ⟨_, h⟩ | ⟨h, _⟩
        · omega
        · omega
        · omega
        · exact h)
      dsimp only at this ⊢
      refine Ev.congr (f := fun _ => some (readP (c :: t))) (fun k => ?_) (Ev.now _)
      rw [← this]
      repeat' split
      all_goals rfl
    simp only [if_neg h70]
    obtain ⟨n, hg, n0, n1⟩ := gP_shape (c :: t)
    rw [hg]
    refine Ev.bind (f := fun k t => _) (refshow_ev 1 n ⟨#[]⟩ false n0 n1) ?_
    have := try_ev (c :: t) ⟨1, n, ⟨#[]⟩, false⟩ ⟨n0, n1⟩ (fun w hw wr e => by
      rcases text_head w hw c t e with ⟨a, b, d, q, _⟩ | ⟨_, _, _, _, h⟩ | ⟨_, h⟩ | ⟨_, h⟩
      · have h1 := gP_itoa w.f1 wr.1 wr.2
        rw [q, hg] at h1
        have e4 : n = w.f1 := congrArg (fun (o : Int × Int × ByteArray × Bool) => o.2.1) h1
        obtain ⟨w0, w1, w2, w3⟩ := w
        dsimp only at a b d e4
        subst a; subst b; subst d; subst e4
        rfl
      · omega
      · omega
      · omega)
    dsimp only at this ⊢
    refine Ev.congr (f := fun _ => some (readP (c :: t))) (fun k => ?_) (Ev.now _)
    rw [← this]
    repeat' split
    all_goals rfl
end Go.Proofs.YtpkbhfdfgapmlaaGreatDoor.Pv
end

/-! ## text PvRefCell -/
section
/- The document's reading of a cell. -/
namespace Go.Proofs.YtpkbhfdfgapmlaaGreatDoor.Pv
open Go Go.RowKit Go.Proofs.YtpkbhfdfgapmlaaGreatDoor.Pu Go.Proofs.YtpkbhfdfgapmlaaGreatDoor.Pr Go.Proofs.YtpkbhfdfgapmlaaGreatDoorW.PrintWords Go.Proofs.YtpkbhfdfgapmlaaGreatDoorW.PrintLast Go.Proofs.YtpkbhfdfgapmlaaGreatDoorW.PrintMore
set_option linter.unusedVariables false
set_option linter.unusedSimpArgs false
theorem refcell_ev (kind : Int) (s : ByteArray) (hs : s.size ≤ 140737488351232) : Ev (fun k => refrainref4_cell.f k kind s) (rdS kind s) := by
  unfold refrainref4_cell.f rdS
  by_cases h : kind = 2
  · simp only [if_pos h]
    have e : validV 2 0 s false = decide ((s.size : Int) ≤ 256) := by
      unfold validV
      rw [if_neg (by decide), if_pos rfl]
      simp
      omega
    rw [e]
    exact Ev.now _
  · simp only [if_neg h]
    have hr := refread_ev s.data.toList (by rw [data_len]; exact hs)
    rw [B_of] at hr
    refine Ev.bind hr ?_
    generalize readP s.data.toList = g
    refine Ev.congr (f := fun _ => some _) (fun k => ?_) (Ev.now _)
    by_cases h1 : g.2.2.2.2 = 0
    · rw [if_pos h1, h1]; rfl
    · rw [if_neg h1, show (g.2.2.2.2 == 0) = false from beq_eq_false_iff_ne.2 h1]; rfl
end Go.Proofs.YtpkbhfdfgapmlaaGreatDoor.Pv
end

/-! ## text PureCsvEventsU -/
section
namespace Go.Proofs.YtpkbhfdfgapmlaaGreatDoor.csvEvents
open Go Go.RowKit Go.Proofs.YtpkbhfdfgapmlaaGreatDoor.Pr Go.Proofs.YtpkbhfdfgapmlaaGreatDoor.Opn Go.Proofs.YtpkbhfdfgapmlaaGreatDoor.Pu Go.Proofs.YtpkbhfdfgapmlaaGreatDoor.Pv Go.Proofs.YtpkbhfdfgapmlaaGreatDoor.PuCsv Go.Proofs.YtpkbhfdfgapmlaaGreatDoorW.PrintWords Go.Proofs.YtpkbhfdfgapmlaaGreatDoorW.PrintLast Go.Proofs.YtpkbhfdfgapmlaaGreatDoorW.PrintMore
set_option linter.unusedVariables false
set_option linter.unusedSimpArgs false
theorem vals_len : ∀ (at' : List SA) (cs : List ByteArray) (vals : List SW), valsL at' cs = some vals → vals.length = at'.length := by
  intro at'
  induction at' with
  | nil => intro cs vals h; unfold valsL at h; obtain rfl := Option.some.inj h; rfl
  | cons a aa ih =>
    intro cs vals h
    cases cs with
    | nil => unfold valsL at h; cases h
    | cons c cs =>
      unfold valsL at h
      split at h
      · obtain ⟨vs, h1, h2⟩ := Option.map_eq_some_iff.1 h
        subst h2
        rw [List.length_cons, List.length_cons, ih cs vs h1]
      · cases h
theorem event_len (name : ByteArray) (at' : List SA) (row : List ByteArray) : (eventS name at' row).2.2.1.length ≤ at'.length := by
  unfold eventS
  split
  · split
    · split
      · cases hv : valsL at' (row.drop 1) with
        | none => exact Nat.zero_le _
        | some vs => exact Nat.le_of_eq (vals_len at' _ vs hv)
      · exact Nat.zero_le _
    · exact Nat.zero_le _
  · exact Nat.zero_le _
theorem cells_len2 : ∀ (at' : List SA) (vals : List SW), (cellsL at' vals).1.length ≤ at'.length := by
  intro at'
  induction at' with
  | nil => intro vals; cases vals <;> exact Nat.zero_le _
  | cons a aa ih =>
    intro vals
    cases vals with
    | nil => exact Nat.zero_le _
    | cons v vs =>
      unfold cellsL
      split
      · split
        · split
          · rw [List.length_cons, List.length_cons]; exact Nat.succ_le_succ (ih vs)
          · exact Nat.zero_le _
        · exact Nat.zero_le _
      · exact Nat.zero_le _
theorem row_len (name : ByteArray) (at' : List SA) (tn : ByteArray) (tm : Int) (vals : List SW) : (rowS name at' tn tm vals).1.length ≤ at'.length + 1 := by
  unfold rowS
  split
  · split
    · split
      · split
        · rw [List.length_cons]; exact Nat.succ_le_succ (cells_len2 at' vals)
        · exact Nat.zero_le _
      · exact Nat.zero_le _
    · exact Nat.zero_le _
  · exact Nat.zero_le _
theorem len_sum : ∀ (l : List Nat), (∀ n ∈ l, 1 ≤ n) → l.length ≤ l.sum
  | [], _ => Nat.le_refl _
  | a :: t, h => by
    have := len_sum t (fun n hn => h n (List.mem_cons_of_mem _ hn))
    have := h a List.mem_cons_self
    rw [List.length_cons, List.sum_cons]; omega
theorem map_len {α : Type} (M : α → Nat) (l : List α) (h : ∀ a, 1 ≤ M a) : l.length ≤ (List.map M l).sum := by
  have := len_sum (List.map M l) (fun n hn => by
    obtain ⟨a, _, rfl⟩ := List.mem_map.1 hn
    exact h a)
  rwa [List.length_map] at this
theorem mem_sum {α : Type} (M : α → Nat) : ∀ (l : List α) (a : α), a ∈ l → M a ≤ (List.map M l).sum
  | b :: t, a, h => by
    rw [List.map_cons, List.sum_cons]
    rcases List.mem_cons.1 h with rfl | h
    · omega
    · have := mem_sum M t a h; omega
theorem wf_of {n : Int} (h : (Lit.int .i64 n).wf = true) : -9223372036854775808 ≤ n ∧ n ≤ 9223372036854775807 := by
  have h' : (decide (IntKind.i64.min ≤ n) && decide (n ≤ IntKind.i64.max)) = true := h
  rw [Bool.and_eq_true, decide_eq_true_eq, decide_eq_true_eq] at h'
  exact h'
theorem pureG : PureG := by
  intro x0 x1 x2 hG0 hG1 hG2 hM
  have hA : x0.f1.length ≤ 1048576 := by
    have := map_len (fun x => M30 x) x0.f1 (fun a => by unfold M30; omega)
    unfold M24 at hM
    omega
  have hR1 : x1.length ≤ 1048576 := by
    have := map_len (fun l : List ByteArray => (List.map (fun x : ByteArray => x.size + 1) l).sum + 1) x1 (fun a => by omega)
    omega
  have hR2 : ∀ r ∈ x1, r.length ≤ 1048576 ∧ ∀ s ∈ r, s.size ≤ 1048576 := fun r hr => by
    have h1 := mem_sum (fun l : List ByteArray => (List.map (fun x : ByteArray => x.size + 1) l).sum + 1) x1 r hr
    have h2 := map_len (fun x : ByteArray => x.size + 1) r (fun a => by omega)
    refine ⟨by omega, fun s hs => ?_⟩
    have h3 := mem_sum (fun x : ByteArray => x.size + 1) r s hs
    omega
  have hE1 : x2.length ≤ 1048576 := by
    have := map_len (fun x => M35 x) x2 (fun a => by unfold M35; omega)
    omega
  have hE2 : ∀ e ∈ x2, e.f2.length ≤ 1048576 := fun e he => by
    have h1 := mem_sum (fun x => M35 x) x2 e he
    have h2 := map_len (fun x => M43 x) e.f2 (fun a => by unfold M43; omega)
    have h3 : M35 e = ((e.f0.size + 1) + (1 + ((List.map (fun x => M43 x) e.f2).sum + 1))) + 1 := rfl
    omega
  refine ⟨0, ?_⟩
  unfold refrainlaw4_CsvEvents.f
  refine if_pos ⟨begun_true, hA, hR1, hE1, fun r hr => (hR2 r hr).1, hE2, fun r hr => ?_, fun e he => ?_, ?_, ?_, ?_⟩
  · refine ⟨?_, fun s hs => ?_, fun kind s hs => (refcell_ev kind s (by have := (hR2 r hr).2 s hs; omega)).rounds, by have := event_len x0.f0 x0.f1 r; omega⟩
    · unfold csv_Event.f
      exact if_pos ⟨by omega, fun s hs => by have := (hR2 r hr).2 s hs; omega⟩
    · have h := refread_ev s.data.toList (by rw [data_len]; have := (hR2 r hr).2 s hs; omega)
      rw [B_of] at h
      exact h.rounds
  · have hw : ∀ v ∈ e.f2, v.f2.size ≤ 140737488355328 ∧ wfW v := fun v hv => by
      have h := (hG2.2.2 e he).2.2.2.2 v hv
      exact ⟨by have := h.2.2.1; omega, wf_of h.2.1⟩
    refine ⟨?_, fun v hv => (hw v hv).2, by have := row_len x0.f0 x0.f1 e.f0 e.f1 e.f2; omega⟩
    unfold csv_Row.f
    exact if_pos ⟨by omega, hw⟩
  · exact fun a b s vs hv h => (same_event a b s vs (by omega) h).rounds
  · exact fun r hr => (row_self r (by omega)).rounds
  · exact fun v hv => (refshow_ev v.f0 v.f1 v.f2 v.f3 hv.1 hv.2).rounds
end Go.Proofs.YtpkbhfdfgapmlaaGreatDoor.csvEvents
end

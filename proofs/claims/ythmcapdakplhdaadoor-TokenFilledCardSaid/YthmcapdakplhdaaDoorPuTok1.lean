import Derived.Test.YthmcapdakplhdaaDoorPuBase
import Derived.Test.YthmcapdakplhdaaDoorPrx11
namespace Go.Proofs.YthmcapdakplhdaaDoor.Pu
open Go.RowKit Go.Proofs.YthmcapdakplhdaaDoor.Pr Go.Proofs.YthmcapdakplhdaaDoorW.PrintWords Go.Proofs.YthmcapdakplhdaaDoorW.PrintLast Go.Proofs.YthmcapdakplhdaaDoorW.PrintMore
set_option linter.unusedVariables false
set_option linter.unusedSimpArgs false

theorem hasPrefix (l p : List UInt8) : strings_HasPrefix.f (B l) (B p) = some (l.take p.length == p) := by
  unfold strings_HasPrefix.f stringslite_HasPrefix.f
  simp only [B_size, B_toList]
  by_cases h : (l.length : Int) ≥ (p.length : Int)
  · rw [if_pos h, if_pos (by omega), if_pos (by omega)]
    simp [B_extract]
  · rw [if_neg h]
    simp only [Option.bind_some, Option.some.injEq]
    symm
    rw [beq_eq_false_iff_ne]
    intro e
    have := congrArg List.length e
    simp at this
    omega

/-- How long the sign is with which a text begins. -/
def signL : List UInt8 → Nat
  | [] => 0
  | c :: t =>
    if c.toNat = 33 ∨ c.toNat = 60 ∨ c.toNat = 62 then (if t.take 1 == [61] then 2 else 1)
    else if c.toNat = 40 ∨ c.toNat = 41 ∨ c.toNat = 91 ∨ c.toNat = 93 ∨ c.toNat = 123 ∨ c.toNat = 125 ∨ c.toNat = 44 ∨ c.toNat = 43 ∨ c.toNat = 45 ∨ c.toNat = 42 ∨ c.toNat = 61 then 1
    else if c.toNat = 46 then (if t.take 1 == [46] then 2 else 1)
    else 0

theorem signAt_ev (l : List UInt8) : Ev (fun k => token_signAt.f k (B l)) (signL l) := by
  refine Ev.of (fun k => token_signAt.mono _ k) (k := 3) ?_
  unfold token_signAt.f
  cases l with
  | nil => simp [signL]
  | cons c t =>
    rw [if_neg (by simp), if_pos (by simp)]
    simp only [bt_head]
    have e1 : (B (c :: t)).extract 1 (B (c :: t)).size = B t := B_ext_rest [c] t
    have p61 := hasPrefix t [61]
    have p46 := hasPrefix t [46]
    have q61 : strings_HasPrefix.f (B t) (⟨#[61]⟩ : ByteArray) = some (t.take 1 == [61]) := p61
    have q46 : strings_HasPrefix.f (B t) (⟨#[46]⟩ : ByteArray) = some (t.take 1 == [46]) := p46
    have hs : (1 : Int) ≤ ((B (c :: t)).size : Int) := by simp; omega
    unfold signL
    simp only [token_signAt.j0, token_signAt.j1, e1, q61, q46, Option.bind_some, if_pos hs]
    generalize (c.toNat : Nat) = n
    generalize (t.take 1 == [61]) = b1
    generalize (t.take 1 == [46]) = b2
    have w1 : wrap64 (0 + 1) = 1 := by unfold wrap64; omega
    have w2 : wrap64 (1 + 1) = 2 := by unfold wrap64; omega
    simp only [w1, w2]
    have e33 : ((n : Int) = 33) = (n = 33) := propext ⟨fun h => by omega, fun h => by omega⟩
    have f33 : ((n : Int) == 33) = decide (n = 33) := by rw [Bool.eq_iff_iff]; simp only [beq_iff_eq, decide_eq_true_eq, e33]
    have e60 : ((n : Int) = 60) = (n = 60) := propext ⟨fun h => by omega, fun h => by omega⟩
    have f60 : ((n : Int) == 60) = decide (n = 60) := by rw [Bool.eq_iff_iff]; simp only [beq_iff_eq, decide_eq_true_eq, e60]
    have e62 : ((n : Int) = 62) = (n = 62) := propext ⟨fun h => by omega, fun h => by omega⟩
    have f62 : ((n : Int) == 62) = decide (n = 62) := by rw [Bool.eq_iff_iff]; simp only [beq_iff_eq, decide_eq_true_eq, e62]
    have e40 : ((n : Int) = 40) = (n = 40) := propext ⟨fun h => by omega, fun h => by omega⟩
    have f40 : ((n : Int) == 40) = decide (n = 40) := by rw [Bool.eq_iff_iff]; simp only [beq_iff_eq, decide_eq_true_eq, e40]
    have e41 : ((n : Int) = 41) = (n = 41) := propext ⟨fun h => by omega, fun h => by omega⟩
    have f41 : ((n : Int) == 41) = decide (n = 41) := by rw [Bool.eq_iff_iff]; simp only [beq_iff_eq, decide_eq_true_eq, e41]
    have e91 : ((n : Int) = 91) = (n = 91) := propext ⟨fun h => by omega, fun h => by omega⟩
    have f91 : ((n : Int) == 91) = decide (n = 91) := by rw [Bool.eq_iff_iff]; simp only [beq_iff_eq, decide_eq_true_eq, e91]
    have e93 : ((n : Int) = 93) = (n = 93) := propext ⟨fun h => by omega, fun h => by omega⟩
    have f93 : ((n : Int) == 93) = decide (n = 93) := by rw [Bool.eq_iff_iff]; simp only [beq_iff_eq, decide_eq_true_eq, e93]
    have e123 : ((n : Int) = 123) = (n = 123) := propext ⟨fun h => by omega, fun h => by omega⟩
    have f123 : ((n : Int) == 123) = decide (n = 123) := by rw [Bool.eq_iff_iff]; simp only [beq_iff_eq, decide_eq_true_eq, e123]
    have e125 : ((n : Int) = 125) = (n = 125) := propext ⟨fun h => by omega, fun h => by omega⟩
    have f125 : ((n : Int) == 125) = decide (n = 125) := by rw [Bool.eq_iff_iff]; simp only [beq_iff_eq, decide_eq_true_eq, e125]
    have e44 : ((n : Int) = 44) = (n = 44) := propext ⟨fun h => by omega, fun h => by omega⟩
    have f44 : ((n : Int) == 44) = decide (n = 44) := by rw [Bool.eq_iff_iff]; simp only [beq_iff_eq, decide_eq_true_eq, e44]
    have e43 : ((n : Int) = 43) = (n = 43) := propext ⟨fun h => by omega, fun h => by omega⟩
    have f43 : ((n : Int) == 43) = decide (n = 43) := by rw [Bool.eq_iff_iff]; simp only [beq_iff_eq, decide_eq_true_eq, e43]
    have e45 : ((n : Int) = 45) = (n = 45) := propext ⟨fun h => by omega, fun h => by omega⟩
    have f45 : ((n : Int) == 45) = decide (n = 45) := by rw [Bool.eq_iff_iff]; simp only [beq_iff_eq, decide_eq_true_eq, e45]
    have e42 : ((n : Int) = 42) = (n = 42) := propext ⟨fun h => by omega, fun h => by omega⟩
    have f42 : ((n : Int) == 42) = decide (n = 42) := by rw [Bool.eq_iff_iff]; simp only [beq_iff_eq, decide_eq_true_eq, e42]
    have e61 : ((n : Int) = 61) = (n = 61) := propext ⟨fun h => by omega, fun h => by omega⟩
    have f61 : ((n : Int) == 61) = decide (n = 61) := by rw [Bool.eq_iff_iff]; simp only [beq_iff_eq, decide_eq_true_eq, e61]
    have e46 : ((n : Int) = 46) = (n = 46) := propext ⟨fun h => by omega, fun h => by omega⟩
    have f46 : ((n : Int) == 46) = decide (n = 46) := by rw [Bool.eq_iff_iff]; simp only [beq_iff_eq, decide_eq_true_eq, e46]
    simp only [e33, f33, e60, f60, e62, f62, e40, f40, e41, f41, e91, f91, e93, f93, e123, f123, e125, f125, e44, f44, e43, f43, e45, f45, e42, f42, e61, f61, e46, f46]
    by_cases h : n ∈ [33, 60, 62, 40, 41, 91, 93, 123, 125, 44, 43, 45, 42, 61, 46]
    · simp only [List.mem_cons, List.mem_nil_iff, or_false] at h
      rcases h with rfl | rfl | rfl | rfl | rfl | rfl | rfl | rfl | rfl | rfl | rfl | rfl | rfl | rfl | rfl <;> cases b1 <;> cases b2 <;> rfl
    · simp only [List.mem_cons, List.mem_nil_iff, or_false, not_or] at h
      obtain ⟨h33, h60, h62, h40, h41, h91, h93, h123, h125, h44, h43, h45, h42, h61, h46⟩ := h
      simp [h33, h60, h62, h40, h41, h91, h93, h123, h125, h44, h43, h45, h42, h61, h46]

/-- A blank, a letter, a digit. -/
def blankN (n : Nat) : Bool := n == 32 || n == 9 || n == 10 || n == 13
def letN (n : Nat) : Bool := (decide (97 ≤ n) && decide (n ≤ 122)) || (decide (65 ≤ n) && decide (n ≤ 90)) || n == 95
def digN (n : Nat) : Bool := decide (48 ≤ n) && decide (n ≤ 57)
def signN (n : Nat) : Bool := n == 33 || n == 60 || n == 62 || n == 40 || n == 41 || n == 91 || n == 93 || n == 123 || n == 125 || n == 44 || n == 43 || n == 45 || n == 42 || n == 61 || n == 46
def begN (n : Nat) : Int := if blankN n then 1 else if letN n then 2 else if digN n then 3 else if n = 34 then 4 else if signN n then 5 else 0
def goesN (n : Nat) : Bool := letN n || digN n
def blankB (c : UInt8) : Bool := blankN c.toNat
def letB (c : UInt8) : Bool := letN c.toNat
/-- What a byte begins. -/
def begL (c : UInt8) : Int := begN c.toNat
theorem signL_one (c : UInt8) : signL [c] = if signN c.toNat then 1 else 0 := by
  have hl := c.toNat_lt
  simp only [signL, List.take_nil]
  generalize c.toNat = n at hl ⊢
  revert hl
  revert n
  decide +kernel

theorem encode_all : ∀ n : Nat, n < 256 → Utf8.encode (n : Int) = if n < 128 then B [UInt8.ofNat n] else B [UInt8.ofNat (192 + n / 64), UInt8.ofNat (128 + n % 64)] := by
  intro n hn
  have hv : Utf8.valid (n : Int) = true := by
    revert n
    decide +kernel
  unfold Utf8.encode
  simp only [hv, if_true, Int.toNat_natCast]
  by_cases h : n < 128
  · rw [if_pos h, if_pos h]; rfl
  · rw [if_neg h, if_neg h, if_pos (by omega)]; rfl
theorem signAt_byte (c : UInt8) : Ev (fun k => token_signAt.f k (Utf8.encode (c.toNat : Int))) (signL [c] : Nat) := by
  rw [encode_all c.toNat c.toNat_lt]
  by_cases h : c.toNat < 128
  · rw [if_pos h, UInt8.ofNat_toNat]
    exact signAt_ev [c]
  · rw [if_neg h]
    have := signAt_ev [UInt8.ofNat (192 + c.toNat / 64), UInt8.ofNat (128 + c.toNat % 64)]
    have e1 : signL [UInt8.ofNat (192 + c.toNat / 64), UInt8.ofNat (128 + c.toNat % 64)] = 0 := by
      have hd : (UInt8.ofNat (192 + c.toNat / 64)).toNat = 192 + c.toNat / 64 := by rw [UInt8.toNat_ofNat']; have := c.toNat_lt; omega
      simp only [signL, hd]
      have := c.toNat_lt
      rw [if_neg (by omega), if_neg (by omega), if_neg (by omega)]
    have e2 : signL [c] = 0 := by
      simp only [signL]
      rw [if_neg (by omega), if_neg (by omega), if_neg (by omega)]
    rw [e2]
    rw [e1] at this
    exact this
theorem begins_ev (c : UInt8) : Ev (fun k => token_begins.f k (c.toNat : Int)) (begL c) := by
  obtain ⟨K, hK⟩ := signAt_byte c
  refine Ev.of (fun k => token_begins.mono _ k) (k := K + 3) ?_
  have h0 := hK K (Nat.le_refl _)
  unfold token_begins.f
  simp only [token_begins.j0, token_begins.j1, token_begins.j2, h0, Option.bind_some]
  have hl := c.toNat_lt
  rw [signL_one] at h0
  unfold begL
  clear h0 hK
  rw [signL_one]
  generalize c.toNat = n at hl ⊢
  revert hl
  revert n
  decide +kernel
/-- May the byte follow in a word? -/
def goesB (c : UInt8) : Bool := goesN c.toNat
theorem goesOn_ev (c : UInt8) : Ev (fun k => token_goesOn.f k (c.toNat : Int)) (goesB c) := by
  refine Ev.bind (begins_ev c) ?_
  have : (if begL c = 2 then some true else some (begL c == 3)) = some (goesB c) := by
    unfold begL goesB
    have hl := c.toNat_lt
    generalize c.toNat = n at hl ⊢
    revert hl
    revert n
    decide +kernel
  rw [this]
  exact Ev.now _
/-- How many bytes at the front go on. -/
theorem run_ev (v : Value) (l : List UInt8) (hl : l.length ≤ 140737488355328) : Ev (fun k => token_run.f k (B l) v) ((l.takeWhile goesB).length : Int) := by
  have h : ∀ (rest pre : List UInt8), pre ++ rest = l → Ev (fun k => token_run.l0 k (B l) (pre.length : Int)) ((pre.length + (rest.takeWhile goesB).length : Nat) : Int) := by
    intro rest
    induction rest with
    | nil =>
      intro pre hp
      refine Ev.of (fun k => (token_run.mono_l k) _ _) (k := 1) ?_
      simp only [token_run.l0]
      rw [if_neg (by rw [B_size, ← hp]; simp)]
      simp
    | cons c t ih =>
      intro pre hp
      refine Ev.step (f := fun k => (token_goesOn.f k (c.toNat : Int)).bind fun t194 => if t194 = true then token_run.l0 k (B l) (wrap64 ((pre.length : Int) + 1)) else some (pre.length : Int)) ?_ ?_
      · intro k
        simp only [token_run.l0]
        have hlen : pre.length < l.length := by rw [← hp]; simp
        rw [if_pos (by rw [B_size]; omega), if_pos (by omega)]
        rw [← hp, bt_mid]
      · refine Ev.bind (goesOn_ev c) ?_
        cases hg : goesB c with
        | false => simp only [List.takeWhile_cons, hg]; exact Ev.now _
        | true =>
          have := ih (pre ++ [c]) (by rw [← hp]; simp)
          have hlen : pre.length < l.length := by rw [← hp]; simp
          rw [w64 (by omega) (by omega)]
          simp only [List.takeWhile_cons, hg, if_true, List.length_cons]
          have e : ((pre ++ [c]).length : Int) = (pre.length : Int) + 1 := by simp
          rw [e] at this
          have e2 : ((pre ++ [c]).length + (List.takeWhile goesB t).length : Nat) = pre.length + ((List.takeWhile goesB t).length + 1) := by simp; omega
          rw [e2] at this
          exact this
  have := h l [] rfl
  simp only [List.length_nil, Nat.zero_add] at this
  exact this
end Go.Proofs.YthmcapdakplhdaaDoor.Pu

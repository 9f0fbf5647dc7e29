import Derived.Test.YthmcapdakplhdaaDoorPuTok4
import Derived.Test.YthmcapdakplhdaaDoorPrx15
namespace Go.Proofs.YthmcapdakplhdaaDoor.Pu
open Go.RowKit Go.Proofs.YthmcapdakplhdaaDoor.Pr Go.Proofs.YthmcapdakplhdaaDoorW.PrintWords Go.Proofs.YthmcapdakplhdaaDoorW.PrintLast Go.Proofs.YthmcapdakplhdaaDoorW.PrintMore
set_option linter.unusedVariables false
set_option linter.unusedSimpArgs false

/-- Can a token be? -/
def canL (kind : Int) (l : List UInt8) (last : Bool) : Bool :=
  if kind = 1 then (match l with | [] => false | c :: t => decide ((c :: t).length ≤ 32) && decide (begL c = 2) && decide (runL (c :: t) = (c :: t).length))
  else if kind = 2 then isIntB l
  else if kind = 3 then decide (l.length ≤ 256)
  else if kind = 4 then (match l with | [] => false | c :: t => decide (signL (c :: t) = (c :: t).length))
  else if kind = 5 then (match l with | [] => last | _ => false)
  else false

theorem can_ev (kind : Int) (l : List UInt8) (at_ : Int) (last : Bool) (hl : l.length ≤ 140737488355328) : ∃ k, token_canBe.f k kind (B l) at_ last = some (canL kind l last) := by
  have hn : ∀ c t, l = c :: t → ((B l).toList = ([] : List UInt8)) = False := fun c t h => by rw [h]; simp
  obtain ⟨K2, h2⟩ := run_ev2 (.func (.func 48) #[] #[]) l hl
  obtain ⟨K3, h3⟩ := signAt_ev l
  replace h2 : ∀ k, K2 ≤ k → token_run.f k (B l) (.func (.func 48) #[] #[]) = some ((runL l : Nat) : Int) := h2
  replace h3 : ∀ k, K3 ≤ k → token_signAt.f k (B l) = some (signL l : Int) := h3
  unfold token_canBe.f canL
  by_cases k1 : kind = 1
  · simp only [if_pos k1]
    cases l with
    | nil => exact ⟨0, by simp⟩
    | cons c t =>
      obtain ⟨K1, h1⟩ := begins_ev c
      replace h1 : ∀ k, K1 ≤ k → token_begins.f k (c.toNat : Int) = some (begL c) := h1
      refine ⟨K1 + K2, ?_⟩
      rw [if_neg (by simp)]
      by_cases h32 : (c :: t).length ≤ 32
      · rw [if_pos (by rw [B_size]; omega), if_pos (by simp), bt_head, h1 (K1 + K2) (by omega), Option.bind_some]
        by_cases hb : begL c = 2
        · rw [if_pos hb, h2 (K1 + K2) (by omega), Option.bind_some, B_size]
          congr 1
          rw [Bool.eq_iff_iff]
          simp only [beq_iff_eq, h32, hb, decide_true, Bool.true_and, decide_eq_true_eq]
          omega
        · rw [if_neg hb]; simp [hb]
      · rw [if_neg (by rw [B_size]; omega)]; simp only [h32, decide_false, Bool.false_and]
  simp only [if_neg k1]
  by_cases k2 : kind = 2
  · simp only [if_pos k2]
    exact ⟨0, by rw [isInt_f l hl]; rfl⟩
  simp only [if_neg k2]
  by_cases k3 : kind = 3
  · simp only [if_pos k3]
    exact ⟨0, by rw [B_size]; congr 2; rw [eq_iff_iff]; omega⟩
  simp only [if_neg k3]
  by_cases k4 : kind = 4
  · simp only [if_pos k4]
    cases l with
    | nil => exact ⟨0, by simp⟩
    | cons c t =>
      refine ⟨K3, ?_⟩
      rw [if_neg (by simp), h3 K3 (by omega), Option.bind_some, B_size]
      congr 1
      rw [Bool.eq_iff_iff]
      simp only [beq_iff_eq, decide_eq_true_eq]
      omega
  simp only [if_neg k4]
  by_cases k5 : kind = 5
  · simp only [if_pos k5]
    cases l with
    | nil => exact ⟨0, by simp⟩
    | cons c t => exact ⟨0, by rw [if_neg (by simp)]⟩
  exact ⟨0, by simp only [if_neg k5]⟩
end Go.Proofs.YthmcapdakplhdaaDoor.Pu

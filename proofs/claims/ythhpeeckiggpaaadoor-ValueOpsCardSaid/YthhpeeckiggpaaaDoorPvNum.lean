import Derived.Test.YthhpeeckiggpaaaDoorPuBase
import Derived.Lib.ParseIntBCases
import Derived.Lib.ItoaNum
import Derived.Lib.ItoaLen
namespace Go.Proofs.YthhpeeckiggpaaaDoor.Pv
open Go.RowKit Go.Proofs.YthhpeeckiggpaaaDoor.Pu Go.Proofs.YthhpeeckiggpaaaDoorW.PrintWords Go.Proofs.YthhpeeckiggpaaaDoorW.PrintLast Go.Proofs.YthhpeeckiggpaaaDoorW.PrintMore
set_option linter.unusedVariables false
set_option linter.unusedSimpArgs false

/-- A decimal numeral is read as the number that it spells. No program, no memory. -/
theorem pum_append (M : Nat) : ∀ (l : List UInt8) (acc : Nat) (r : List UInt8) (a : Nat), Lib.parseUintM M acc l = .ok a → Lib.parseUintM M acc (l ++ r) = Lib.parseUintM M a r := by
  intro l
  induction l with
  | nil => intro acc r a h; simp only [Lib.parseUintM] at h; injection h with h; subst h; rfl
  | cons c t ih =>
    intro acc r a h
    rw [List.cons_append]
    rw [Lib.parseUintM] at h
    rw [Lib.parseUintM]
    by_cases h1 : 48 ≤ c.toNat ∧ c.toNat ≤ 57
    · rw [if_pos h1] at h
      rw [if_pos h1]
      by_cases h2 : 1844674407370955162 ≤ acc
      · rw [if_pos h2] at h; cases h
      · rw [if_neg h2] at h
        rw [if_neg h2]
        by_cases h3 : M < acc * 10 + (c.toNat - 48)
        · rw [if_pos h3] at h; cases h
        · rw [if_neg h3] at h
          rw [if_neg h3]
          exact ih _ r a h
    · rw [if_neg h1] at h; cases h
theorem digc (d : Nat) (h : d < 10) : (UInt8.ofNat (48 + d)).toNat = 48 + d := by
  rw [UInt8.toNat_ofNat']; omega
theorem pum_dec (u : Nat) (h : u ≤ 18446744073709551615) : Lib.parseUintM 18446744073709551615 0 (Lib.decDigits u) = .ok u := by
  induction u using Nat.strongRecOn with
  | _ u ih =>
    by_cases h1 : u < 10
    · rw [Lib.decDigits, dif_pos h1, Lib.parseUintM, digc u h1, if_pos (by omega), if_neg (by omega), if_neg (by omega), Lib.parseUintM]
      congr 1
      omega
    · rw [Lib.decDigits, dif_neg h1, pum_append _ _ _ _ _ (ih (u / 10) (by omega) (by omega)), Lib.parseUintM, digc (u % 10) (by omega), if_pos (by omega), if_neg (by omega), if_neg (by omega), Lib.parseUintM]
      congr 1
      omega
theorem dec_digits (u : Nat) : ∀ c ∈ Lib.decDigits u, 48 ≤ c.toNat ∧ c.toNat ≤ 57 := by
  induction u using Nat.strongRecOn with
  | _ u ih =>
    intro c hc
    by_cases h1 : u < 10
    · rw [Lib.decDigits, dif_pos h1, List.mem_singleton] at hc
      rw [hc, digc u h1]; omega
    · rw [Lib.decDigits, dif_neg h1, List.mem_append, List.mem_singleton] at hc
      rcases hc with hc | hc
      · exact ih (u / 10) (by omega) c hc
      · rw [hc, digc _ (by omega)]; omega
theorem dec_ne (u : Nat) : Lib.decDigits u ≠ [] := by
  rw [Lib.decDigits]; split <;> simp
theorem dec_cons (u : Nat) : ∃ c r, Lib.decDigits u = c :: r ∧ 48 ≤ c.toNat ∧ c.toNat ≤ 57 := by
  cases h : Lib.decDigits u with
  | nil => exact absurd h (dec_ne u)
  | cons c r => exact ⟨c, r, rfl, dec_digits u c (by rw [h]; simp)⟩
theorem pub_dec (u : Nat) (h : u ≤ 18446744073709551615) : Lib.parseUintB 64 (Lib.decDigits u) = .ok u := by
  unfold Lib.parseUintB
  rw [if_neg (dec_ne u)]
  exact pum_dec u h
theorem parse_itoa (n : Int) (h0 : -9223372036854775808 ≤ n) (h1 : n ≤ 9223372036854775807) : Lib.parseIntB 64 (Lib.itoa n) = .ok n := by
  unfold Lib.itoa
  by_cases hn : n < 0
  · rw [if_pos hn, Lib.parseIntB_minus, pub_dec _ (by omega)]
    simp only [Lib.signedC]
    rw [if_neg (by omega)]
    congr 1
    omega
  · rw [if_neg hn]
    obtain ⟨c, r, hc, h2, h3⟩ := dec_cons n.toNat
    rw [hc, Lib.parseIntB_plain _ _ _ (by omega) (by omega), ← hc, pub_dec _ (by omega)]
    simp only [Lib.signlessC]
    rw [if_neg (by omega)]
    congr 1
    omega
end Go.Proofs.YthhpeeckiggpaaaDoor.Pv

import Derived.Test.YthmcapdakplhdaaDoorPuTok1
namespace Go.Proofs.YthmcapdakplhdaaDoor.Pu
open Go.RowKit Go.Proofs.YthmcapdakplhdaaDoor.Pr Go.Proofs.YthmcapdakplhdaaDoorW.PrintWords Go.Proofs.YthmcapdakplhdaaDoorW.PrintLast Go.Proofs.YthmcapdakplhdaaDoorW.PrintMore
set_option linter.unusedVariables false
set_option linter.unusedSimpArgs false

/-- A hexadecimal digit's worth, or -1. -/
def hexN (n : Nat) : Int := if 48 ≤ n ∧ n ≤ 57 then (n : Int) - 48 else if 97 ≤ n ∧ n ≤ 102 then (n : Int) - 87 else if 65 ≤ n ∧ n ≤ 70 then (n : Int) - 55 else -1
theorem hexDigit_ev (c : UInt8) : Ev (fun k => token_hexDigit.f k (c.toNat : Int)) (hexN c.toNat) := by
  refine Ev.of (fun k => token_hexDigit.mono _ k) (k := 3) ?_
  have hl := c.toNat_lt
  generalize c.toNat = n at hl ⊢
  revert hl
  revert n
  decide +kernel
theorem hexN_le : ∀ n : Nat, n < 256 → hexN n ≤ 15 ∧ -1 ≤ hexN n := by decide +kernel

/-- The two digits of an escape: the byte, the length, the error. -/
def hexL : List UInt8 → Int × Int × Int
  | [] => (0, 0, 52)
  | [a] => if hexN a.toNat < 0 then (0, 0, 51) else (0, 0, 52)
  | a :: b :: _ => if hexN a.toNat < 0 then (0, 0, 51) else if hexN b.toNat < 0 then (0, 0, 51) else ((hexN a.toNat * 16 + hexN b.toNat) % 256, 4, 0)
theorem hex_ev (l : List UInt8) (hlen : l.length ≤ 140737488355328) : Ev (fun k => token_hex.f k (B l)) (hexL l) := by
  have s0 : Ev (fun k => token_hex.l0 k (B l) 0 0) (hexL l) := by
    refine Ev.step (f := fun k => if (0 : Int) ≥ ((B l).size : Int) then some (0, 0, 52) else (token_hexDigit.f k (bt (B l) 0)).bind fun t => if t < 0 then some (0, 0, 51) else token_hex.l0 k (B l) (wrap64 (wrap64 (0 * 16) + t)) (wrap64 (0 + 1))) ?_ ?_
    · intro k
      simp only [token_hex.l0]
      rw [if_pos (by omega)]
      by_cases h : (0 : Int) ≥ ((B l).size : Int)
      · rw [if_pos h, if_pos h]
      · rw [if_neg h, if_neg h, if_pos (by omega), if_pos (by omega)]
    · cases l with
      | nil => exact Ev.congr (f := fun _ => some (0, 0, 52)) (fun k => by rw [if_pos (by simp)]) (Ev.now _)
      | cons a t =>
        refine Ev.congr (f := fun k => (token_hexDigit.f k (a.toNat : Int)).bind fun t' => if t' < 0 then some (0, 0, 51) else token_hex.l0 k (B (a :: t)) (wrap64 (wrap64 (0 * 16) + t')) (wrap64 (0 + 1))) (fun k => by rw [if_neg (by simp), bt_head]) ?_
        refine Ev.bind (hexDigit_ev a) ?_
        have ha := hexN_le a.toNat a.toNat_lt
        by_cases hn : hexN a.toNat < 0
        · simp only [if_pos hn]
          have : hexL (a :: t) = (0, 0, 51) := by cases t <;> simp only [hexL, if_pos hn]
          rw [this]
          exact Ev.now _
        · simp only [if_neg hn]
          rw [w64 (n := 0 * 16) (by omega) (by omega), w64 (by omega) (by omega), w64 (by omega) (by omega)]
          refine Ev.step (f := fun k => if (1 : Int) ≥ ((B (a :: t)).size : Int) then some (0, 0, 52) else (token_hexDigit.f k (bt (B (a :: t)) 1)).bind fun t' => if t' < 0 then some (0, 0, 51) else token_hex.l0 k (B (a :: t)) (wrap64 (wrap64 ((0 * 16 + hexN a.toNat) * 16) + t')) (wrap64 (1 + 1))) ?_ ?_
          · intro k
            simp only [token_hex.l0]
            rw [if_pos (by omega)]
            simp only [Int.zero_add]
            by_cases h : (1 : Int) ≥ ((B (a :: t)).size : Int)
            · rw [if_pos h, if_pos h]
            · rw [if_neg h, if_neg h, if_pos (by omega), if_pos (by omega)]
          · cases t with
            | nil =>
              refine Ev.congr (f := fun _ => some (0, 0, 52)) (fun k => by rw [if_pos (by simp)]) ?_
              simp only [hexL, if_neg hn]
              exact Ev.now _
            | cons b t =>
              refine Ev.congr (f := fun k => (token_hexDigit.f k (b.toNat : Int)).bind fun t' => if t' < 0 then some (0, 0, 51) else token_hex.l0 k (B (a :: b :: t)) (wrap64 (wrap64 ((0 * 16 + hexN a.toNat) * 16) + t')) (wrap64 (1 + 1))) (fun k => by rw [if_neg (by simp; omega), show bt (B (a :: b :: t)) 1 = (b.toNat : Int) from bt_mid [a] b t]) ?_
              refine Ev.bind (hexDigit_ev b) ?_
              have hb := hexN_le b.toNat b.toNat_lt
              simp only [hexL, if_neg hn]
              by_cases hn2 : hexN b.toNat < 0
              · simp only [if_pos hn2]
                exact Ev.now _
              · simp only [if_neg hn2]
                rw [w64 (n := (0 * 16 + hexN a.toNat) * 16) (by omega) (by omega), w64 (by omega) (by omega), w64 (by omega) (by omega)]
                refine Ev.step (f := fun k => some ((hexN a.toNat * 16 + hexN b.toNat) % 256, 4, 0)) ?_ (Ev.now _)
                intro k
                simp only [token_hex.l0]
                rw [if_neg (by omega)]
                simp
  exact s0

/-- What stands behind a backslash. -/
def escL : List UInt8 → Int × Int × Int
  | [] => (0, 0, 52)
  | c :: t => if c.toNat = 34 ∨ c.toNat = 92 then (c.toNat, 2, 0) else if c.toNat = 110 then (10, 2, 0) else if c.toNat = 116 then (9, 2, 0) else if c.toNat = 120 then hexL t else (0, 0, 51)
theorem escape_ev (l : List UInt8) (hlen : l.length ≤ 140737488355328) : Ev (fun k => token_escape.f k (B l)) (escL l) := by
  cases l with
  | nil => exact Ev.of (fun k => token_escape.mono _ k) (k := 1) (by unfold token_escape.f; rw [if_pos (by simp)]; rfl)
  | cons c t =>
    simp only [List.length_cons] at hlen
    obtain ⟨K, hK⟩ := hex_ev t (by omega)
    refine Ev.of (fun k => token_escape.mono _ k) (k := K + 1) ?_
    have e1 : (B (c :: t)).extract 1 (B (c :: t)).size = B t := B_ext_rest [c] t
    have hs : (1 : Int) ≤ ((B (c :: t)).size : Int) := by simp; omega
    unfold token_escape.f
    simp only [token_escape.j0, e1, hK K (Nat.le_refl _), Option.bind_some, if_pos hs]
    rw [if_neg (by simp), if_pos (by simp)]
    have hp : (0 : Int) < ((B (c :: t)).size : Int) := by simp
    simp only [bt_head, if_pos hp, escL]
    have hl := c.toNat_lt
    generalize c.toNat = n at hl ⊢
    have e34 : ((n : Int) = 34) = (n = 34) := propext ⟨fun h => by omega, fun h => by omega⟩
    have e110 : ((n : Int) = 110) = (n = 110) := propext ⟨fun h => by omega, fun h => by omega⟩
    have e116 : ((n : Int) = 116) = (n = 116) := propext ⟨fun h => by omega, fun h => by omega⟩
    have e120 : ((n : Int) = 120) = (n = 120) := propext ⟨fun h => by omega, fun h => by omega⟩
    have f34 : ((n : Int) == 34) = decide (n = 34) := by rw [Bool.eq_iff_iff]; simp only [beq_iff_eq, decide_eq_true_eq, e34]
    have f92 : ((n : Int) == 92) = decide (n = 92) := by rw [Bool.eq_iff_iff]; simp only [beq_iff_eq, decide_eq_true_eq]; omega
    simp only [e34, e110, e116, e120, f34, f92]
    by_cases h34 : n = 34
    · simp [h34]
    · by_cases h92 : n = 92
      · simp [h92]
      · simp only [h34, h92, if_false, decide_false, or_self]
        by_cases h110 : n = 110
        · simp [h110]
        · by_cases h116 : n = 116
          · simp [h116]
          · by_cases h120 : n = 120
            · simp [h120]
            · simp [h110, h116, h120]
end Go.Proofs.YthmcapdakplhdaaDoor.Pu

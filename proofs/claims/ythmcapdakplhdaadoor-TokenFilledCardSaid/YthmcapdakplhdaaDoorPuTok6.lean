import Derived.Test.YthmcapdakplhdaaDoorPuTok5
import Derived.Test.YthmcapdakplhdaaDoorPrx16
namespace Go.Proofs.YthmcapdakplhdaaDoor.Pu
open Go.RowKit Go.Proofs.YthmcapdakplhdaaDoor.Pr Go.Proofs.YthmcapdakplhdaaDoorW.PrintWords Go.Proofs.YthmcapdakplhdaaDoorW.PrintLast Go.Proofs.YthmcapdakplhdaaDoorW.PrintMore
set_option linter.unusedVariables false
set_option linter.unusedSimpArgs false

/-- The hexadecimal digits. -/
def lowH : ByteArray := ⟨#[48, 49, 50, 51, 52, 53, 54, 55, 56, 57, 97, 98, 99, 100, 101, 102]⟩
/-- A byte as token.Spell writes it within a string. -/
def pq (n : Int) : List Int :=
  if n = 34 ∨ n = 92 then [92, n]
  else if n = 10 then [92, 110]
  else if n = 9 then [92, 116]
  else if n < 32 ∨ 126 < n then [92, 120, bt lowH (n / 16), bt lowH (Go.bits .and .u8 n 15)]
  else [n]
theorem pq_len : ∀ n : Nat, n < 256 → (pq n).length ≤ 4 ∧ 1 ≤ (pq n).length := by decide +kernel
theorem pq_dig : ∀ n : Nat, n < 256 → (0 : Int) ≤ n / 16 ∧ (n : Int) / 16 < 16 ∧ 0 ≤ Go.bits .and .u8 n 15 ∧ Go.bits .and .u8 n 15 < 16 := by decide +kernel
/-- A string's bytes as they are written, without the quotes. -/
def pqs : List UInt8 → List Int
  | [] => []
  | c :: t => pq c.toNat ++ pqs t
theorem pqs_len : ∀ l : List UInt8, (pqs l).length ≤ 4 * l.length ∧ l.length ≤ (pqs l).length := by
  intro l
  induction l with
  | nil => simp [pqs]
  | cons c t ih =>
    have := pq_len c.toNat c.toNat_lt
    simp only [pqs, List.length_append, List.length_cons]
    omega

theorem pq_step (x0 : ByteArray) (x3 : List Int) (n : Nat) (hn : n < 256) (x8 i : Int) (hx : x3.length + 4 < 140737488355328) (r : ByteArray)
    (h : Ev (fun k => token_quoted.l0 k x0 (x3 ++ pq n) x8 (wrap64 (i + 1))) r) : Ev (fun k => token_quoted.j1 k x0 x3 n x8 i (decide ((n : Int) = 34 ∨ (n : Int) = 92))) r := by
  obtain ⟨d1, d2, d3, d4⟩ := pq_dig n hn
  refine Ev.step ?_ h
  intro K
  rw [token_quoted.j1, pq]
  by_cases h1 : (n : Int) = 34 ∨ (n : Int) = 92
  · rw [if_pos (by simpa using h1), if_pos h1, Option.bind_some, if_pos (by simp; omega)]
  rw [if_neg (by simpa using h1), if_neg h1]
  by_cases h2 : (n : Int) = 10
  · rw [if_pos h2, if_pos h2, Option.bind_some, if_pos (by simp; omega)]
  rw [if_neg h2, if_neg h2]
  by_cases h3 : (n : Int) = 9
  · rw [if_pos h3, if_pos h3, Option.bind_some, if_pos (by simp; omega)]
  rw [if_neg h3, if_neg h3]
  by_cases h4 : (n : Int) < 32
  · rw [if_pos h4, if_pos d1, if_pos d2, if_pos d3, if_pos d4, Option.bind_some, if_pos (by simp; omega), if_pos (.inl h4)]
    rfl
  rw [if_neg h4]
  by_cases h5 : (n : Int) > 126
  · rw [if_pos h5, if_pos d1, if_pos d2, if_pos d3, if_pos d4, Option.bind_some, if_pos (by simp; omega), if_pos (.inr h5)]
    rfl
  rw [if_neg h5, if_pos (by omega), if_neg (by omega)]

theorem quo_loop (l : List UInt8) (hl : l.length ≤ 17592186044416) : ∀ (rest pre : List UInt8), pre ++ rest = l →
    Ev (fun k => token_quoted.l0 k (B l) (34 :: pqs pre) (l.length : Int) (pre.length : Int)) (strOfNums (34 :: (pqs pre ++ pqs rest) ++ [34])) := by
  intro rest
  induction rest with
  | nil =>
    intro pre hp
    have h1 := pqs_len pre
    simp only [List.append_nil] at hp
    subst hp
    refine Ev.step (f := fun _ => some (strOfNums (34 :: (pqs pre ++ pqs []) ++ [34]))) ?_ (Ev.now _)
    intro K
    rw [token_quoted.l0, if_neg (by omega), if_pos (by simp; omega)]
    simp [pqs]
  | cons c t ih =>
    intro pre hp
    have h1 := pqs_len pre
    have hlen : pre.length + t.length + 1 = l.length := by rw [← hp]; simp; omega
    have hb : bt (B l) (pre.length : Int) = (c.toNat : Int) := by rw [← hp, bt_mid]
    have happ : ∀ (a b : List UInt8), pqs (a ++ b) = pqs a ++ pqs b := by
      intro a b
      induction a with
      | nil => rfl
      | cons x a ih => simp only [List.cons_append, pqs, ih, List.append_assoc]
    have := ih (pre ++ [c]) (by rw [← hp]; simp)
    rw [show ((pre ++ [c]).length : Int) = wrap64 ((pre.length : Int) + 1) by rw [w64 (by omega) (by omega)]; simp, happ] at this
    have e1 : pqs [c] = pq c.toNat := by simp [pqs]
    rw [e1] at this
    rw [show 34 :: (pqs pre ++ pqs (c :: t)) ++ [34] = 34 :: (pqs pre ++ pq c.toNat ++ pqs t) ++ [34] by simp [pqs]]
    have h2 := pq_step (B l) (34 :: pqs pre) c.toNat c.toNat_lt (l.length : Int) (pre.length : Int) (by simp; omega) _ this
    refine Ev.step ?_ h2
    intro K
    rw [token_quoted.l0, if_pos (by omega), if_pos (by omega), if_pos (by rw [B_size]; omega), hb]
    by_cases h : (c.toNat : Int) = 34
    · rw [if_pos h]; simp [h]
    · rw [if_neg h]
      congr 1
      rw [Bool.eq_iff_iff]
      simp [h]

/-- A string as it is written. -/
def quoB (s : ByteArray) : ByteArray := strOfNums (34 :: pqs s.data.toList ++ [34])
theorem quoted_ev (l : List UInt8) (hl : l.length ≤ 17592186044416) : ∃ k, token_quoted.f k (B l) = some (quoB (B l)) := by
  obtain ⟨K, h⟩ := quo_loop l hl l [] rfl
  refine ⟨K, ?_⟩
  have := h K (Nat.le_refl _)
  unfold token_quoted.f quoB
  rw [B_size]
  exact this
end Go.Proofs.YthmcapdakplhdaaDoor.Pu

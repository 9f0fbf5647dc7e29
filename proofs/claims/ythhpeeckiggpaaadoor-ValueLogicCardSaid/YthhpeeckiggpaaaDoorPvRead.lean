import Derived.Test.YthhpeeckiggpaaaDoorPvUnq
import Derived.Test.YthhpeeckiggpaaaDoorPrx5
import Derived.Test.YthhpeeckiggpaaaDoorExtV1
import Derived.Lib.ParseIntBTie
namespace Go.Proofs.YthhpeeckiggpaaaDoor.Pv
open Go.RowKit Go.Proofs.YthhpeeckiggpaaaDoor.Pu Go.Proofs.YthhpeeckiggpaaaDoor.Pr Go.Proofs.YthhpeeckiggpaaaDoorW.PrintWords Go.Proofs.YthhpeeckiggpaaaDoorW.PrintLast Go.Proofs.YthhpeeckiggpaaaDoorW.PrintMore
set_option linter.unusedVariables false
set_option linter.unusedSimpArgs false

/-- strconv.ParseInt(s, 10, 64), and whether it is without an error. -/
def piP (l : List UInt8) : Int × Bool := match Lib.parseIntB 64 l with
  | .ok v => (v, true)
  | .range => (Lib.intSat 64 l, false)
  | _ => (0, false)
/-- value.guess, on bytes: kind, number, string, truth value; could it be? -/
def guessP (l : List UInt8) : Int × Int × ByteArray × Bool × Bool :=
  if l = [84, 82, 85, 69] ∨ l = [70, 65, 76, 83, 69] then (3, 0, ⟨#[]⟩, l == [84, 82, 85, 69], true)
  else if l.head? = some 34 then (2, 0, (unB (unqP l)).1, false, (unB (unqP l)).2)
  else (1, (piP l).1, ⟨#[]⟩, false, (piP l).2)
theorem hasPrefix_q (l : List UInt8) : strings_HasPrefix.f (B l) (⟨#[34]⟩ : ByteArray) = some (l.head? == some 34) := by
  unfold strings_HasPrefix.f stringslite_HasPrefix.f
  have hq : ((⟨#[34]⟩ : ByteArray).size : Int) = 1 := rfl
  rw [hq, B_size]
  cases l with
  | nil => rfl
  | cons c t =>
    rw [if_pos (by simp; omega), if_pos (by omega), if_pos (by simp; omega)]
    simp only [Option.bind_some, Option.some.injEq, B_extract, B_toList]
    show (((c :: t).take 1).drop 0 == (⟨#[34]⟩ : ByteArray).toList) = _
    rw [tl_data]
    simp
theorem pi_f (l : List UInt8) (hl : l.length ≤ 281474976710656) : strconv_ParseInt.f (B l) 10 64 = some ((piP l).1, if (piP l).2 then none else some 0) := by
  unfold strconv_ParseInt.f piP
  rw [if_pos ⟨rfl, rfl, by rw [B_size]; exact hl⟩, B_data]
  cases Lib.parseIntB 64 l <;> rfl
theorem piP_bounds (l : List UInt8) : -9223372036854775808 ≤ (piP l).1 ∧ (piP l).1 ≤ 9223372036854775807 := by
  unfold piP
  cases h : Lib.parseIntB 64 l with
  | ok v => have := Lib.parseIntB_bounds h; constructor <;> simp at this ⊢ <;> omega
  | range => simp only [Lib.intSat_64]; exact Lib.atoiSat_bounds l
  | _ => simp
theorem guess_ev (l : List UInt8) (hl : l.length ≤ 140737488351232) : Ev (fun k => value_guess.f k (B l)) (guessP l) := by
  unfold guessP
  have htr : (B l).toList = l := B_toList l
  by_cases h : l = [84, 82, 85, 69] ∨ l = [70, 65, 76, 83, 69]
  · rw [if_pos h]
    have key : ∀ k, value_guess.j0 (k + 1) (B l) true = some (3, 0, ⟨#[]⟩, l == [84, 82, 85, 69], true) := fun k => by
      rw [value_guess.j0, if_pos rfl, htr]
      rfl
    refine Ev.step (f := fun _ => some (3, 0, (⟨#[]⟩ : ByteArray), l == [84, 82, 85, 69], true)) ?_ (Ev.now _)
    intro K
    rw [value_guess.f, htr]
    by_cases h1 : l = [84, 82, 85, 69]
    · rw [if_pos h1, key]
    · rw [if_neg h1]
      have h2 : (l == ([70, 65, 76, 83, 69] : List UInt8)) = true := by rcases h with h | h; exact absurd h h1; rw [h]; rfl
      rw [h2, key]
  · rw [if_neg h]
    have st : ∀ k, value_guess.f k (B l) = value_guess.j0 k (B l) false := fun k => by
      rw [value_guess.f, htr, if_neg (fun e => h (.inl e)), show (l == ([70, 65, 76, 83, 69] : List UInt8)) = false by rw [beq_eq_false_iff_ne]; exact fun e => h (.inr e)]
    refine Ev.congr st ?_
    by_cases hq : l.head? = some 34
    · rw [if_pos hq]
      have hu := unquoted_ev l hl
      have st2 : ∀ K, value_guess.j0 (K + 1) (B l) false = (value_unquoted.f K (B l)).bind fun b => some (2, 0, b.1, false, b.2) := fun K => by
        rw [value_guess.j0, if_neg (by simp), hasPrefix_q, Option.bind_some, if_pos (by simp [hq])]
        rfl
      refine Ev.step st2 ?_
      exact Ev.bind (f := fun _ b => some ((2 : Int), (0 : Int), b.1, false, b.2)) hu (Ev.now _)
    · rw [if_neg hq]
      refine Ev.step (f := fun _ => some (1, (piP l).1, (⟨#[]⟩ : ByteArray), false, (piP l).2)) ?_ (Ev.now _)
      intro K
      rw [value_guess.j0, if_neg (by simp), hasPrefix_q, Option.bind_some, if_neg (by simp [hq]), pi_f l (by omega), Option.bind_some]
      cases hp : (piP l).2 <;> simp [hp, value_number.f]
/-- value.Read, on bytes. -/
def readP (l : List UInt8) : Int × Int × ByteArray × Bool × Int :=
  let g := guessP l
  if g.2.2.2.2 = true ∧ (showV g.1 g.2.1 g.2.2.1 g.2.2.2.1).2 = 0 ∧ (showV g.1 g.2.1 g.2.2.1 g.2.2.2.1).1.toList = l then (g.1, g.2.1, g.2.2.1, g.2.2.2.1, 0) else (0, 0, ⟨#[]⟩, false, 12)
theorem guess_bounds (l : List UInt8) : -9223372036854775808 ≤ (guessP l).2.1 ∧ (guessP l).2.1 ≤ 9223372036854775807 := by
  unfold guessP
  split
  · simp
  · split
    · simp
    · exact piP_bounds l
theorem show_f (kd n : Int) (s : ByteArray) (b : Bool) (h : -9223372036854775808 ≤ n ∧ n ≤ 9223372036854775807) : value_Show.f kd n s b = some (showV kd n s b) := by
  unfold value_Show.f
  rw [if_pos h]
theorem read_ev (l : List UInt8) (hl : l.length ≤ 140737488351232) : Ev (fun k => value_Read.f k (B l)) (readP l) := by
  have hg := guess_ev l hl
  have hb := guess_bounds l
  unfold value_Read.f
  refine Ev.bind (f := fun _ bt156 => _) hg ?_
  unfold readP
  generalize guessP l = g at *
  refine Ev.congr (f := fun _ => some _) (fun k => ?_) (Ev.now _)
  dsimp only
  by_cases h1 : g.2.2.2.2 = true
  · rw [if_pos h1, show_f _ _ _ _ hb, Option.bind_some]
    by_cases h2 : (showV g.1 g.2.1 g.2.2.1 g.2.2.2.1).2 = 0
    · rw [if_pos h2, B_toList]
      by_cases h3 : (showV g.1 g.2.1 g.2.2.1 g.2.2.2.1).1.toList = l
      · rw [if_pos h3, if_pos ⟨h1, h2, h3⟩]
      · rw [if_neg h3, if_neg (fun h => h3 h.2.2)]
    · rw [if_neg h2, if_neg (fun h => h2 h.2.1)]
  · rw [if_neg h1, if_neg (fun h => h1 h.1)]
theorem empty_of {s : ByteArray} (h : (s.toList == []) = true) : s = ⟨#[]⟩ := by
  have : s.toList = [] := by simpa using h
  rw [tl_data] at this
  rw [← B_of s, this]
  rfl
theorem itoa_head (n : Int) : ∃ c r, Lib.itoa n = c :: r ∧ (c.toNat = 45 ∨ 48 ≤ c.toNat ∧ c.toNat ≤ 57) := by
  unfold Lib.itoa
  split
  · exact ⟨45, _, rfl, .inl rfl⟩
  · obtain ⟨c, r, h, h1, h2⟩ := dec_cons n.toNat
    exact ⟨c, r, h, .inr ⟨h1, h2⟩⟩
/-- What may be, is read back from its text. -/
theorem guess_show (kd n : Int) (s : ByteArray) (b : Bool) (h : validV kd n s b = true) (h0 : -9223372036854775808 ≤ n) (h1 : n ≤ 9223372036854775807) :
    guessP (showV kd n s b).1.data.toList = (kd, n, s, b, true) := by
  unfold showV
  rw [if_neg (by rw [h]; simp)]
  unfold validV at h
  by_cases k1 : kd = 1
  · rw [if_pos k1] at h ⊢
    simp only [Bool.and_eq_true] at h
    have hs := empty_of h.1
    have hb : b = false := by simpa using h.2
    subst hs hb k1
    obtain ⟨c, r, hc, hcc⟩ := itoa_head n
    unfold guessP
    have hp : piP (Lib.itoa n) = (n, true) := by unfold piP; rw [parse_itoa n h0 h1]
    rw [show (⟨(Lib.itoa n).toArray⟩ : ByteArray).data.toList = Lib.itoa n by simp, if_neg, if_neg, hp]
    · rw [hc]; intro e; injection e with e; rw [e] at hcc; revert hcc; decide
    · rw [hc]; rintro (e | e) <;> (injection e with e; rw [e] at hcc; revert hcc; decide)
  rw [if_neg k1] at h ⊢
  by_cases k2 : kd = 2
  · rw [if_pos k2] at h ⊢
    simp only [Bool.and_eq_true] at h
    have hn : n = 0 := by simpa using h.1.1
    have hb : b = false := by simpa using h.1.2
    subst hn hb k2
    unfold guessP
    rw [show (⟨(qvs s.data.toList).toArray⟩ : ByteArray).data.toList = qvs s.data.toList by simp, if_neg, if_pos, unqP_qvs]
    · unfold unB; dsimp only; rw [B_of]
    · rfl
    · unfold qvs; rintro (e | e) <;> (injection e with e; revert e; decide)
  rw [if_neg k2] at h ⊢
  by_cases k3 : kd = 3
  · rw [if_pos k3] at h
    simp only [Bool.and_eq_true] at h
    have hn : n = 0 := by simpa using h.1
    have hs := empty_of h.2
    subst hn hs k3
    cases b <;> rfl
  · rw [if_neg k3] at h; cases h
theorem read_show (kd n : Int) (s : ByteArray) (b : Bool) (h : validV kd n s b = true) (h0 : -9223372036854775808 ≤ n) (h1 : n ≤ 9223372036854775807) :
    readP (showV kd n s b).1.data.toList = (kd, n, s, b, 0) ∧ (showV kd n s b).2 = 0 := by
  have hg := guess_show kd n s b h h0 h1
  have h2 : (showV kd n s b).2 = 0 := by
    unfold showV
    rw [if_neg (by rw [h]; simp)]
    repeat' split
    all_goals rfl
  refine ⟨?_, h2⟩
  unfold readP
  rw [hg]
  dsimp only
  rw [if_pos ⟨rfl, h2, by rw [tl_data]⟩]
/-- What is read is valid, and its text is what was read. -/
theorem read_ok {l : List UInt8} (h : (readP l).2.2.2.2 = 0) : showV (readP l).1 (readP l).2.1 (readP l).2.2.1 (readP l).2.2.2.1 = (B l, 0) ∧ validV (readP l).1 (readP l).2.1 (readP l).2.2.1 (readP l).2.2.2.1 = true ∧ -9223372036854775808 ≤ (readP l).2.1 ∧ (readP l).2.1 ≤ 9223372036854775807 := by
  have hb := guess_bounds l
  unfold readP at h ⊢
  generalize guessP l = g at *
  dsimp only at h ⊢
  split at h
  · rename_i hc
    rw [if_pos hc]
    dsimp only
    obtain ⟨h1, h2, h3⟩ := hc
    refine ⟨Prod.ext ?_ h2, ?_, hb⟩
    · show (showV g.1 g.2.1 g.2.2.1 g.2.2.2.1).1 = B l
      rw [← B_of (showV g.1 g.2.1 g.2.2.1 g.2.2.2.1).1, ← tl_data, h3]
    · cases hv : validV g.1 g.2.1 g.2.2.1 g.2.2.2.1 with
      | true => rfl
      | false => unfold showV at h2; rw [if_pos hv] at h2; cases h2
  · simp at h
end Go.Proofs.YthhpeeckiggpaaaDoor.Pv

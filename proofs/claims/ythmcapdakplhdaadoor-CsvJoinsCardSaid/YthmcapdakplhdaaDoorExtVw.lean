import Derived.Test.YthmcapdakplhdaaDoorPrx3
/- A row of texts that is only read, as an element: its slice, and the blocks that it lies in. -/
namespace Go.Proofs.YthmcapdakplhdaaDoor.Pr
open Go Go.RowKit Go.Proofs.YthmcapdakplhdaaDoorW.PrintWords Go.Proofs.YthmcapdakplhdaaDoorW.PrintLast Go.Proofs.YthmcapdakplhdaaDoorW.PrintMore
set_option linter.unusedVariables false
/-- Elements that are rows of texts, any number of them in one block. -/
def vw : Kd (List ByteArray) where
  sz := 1
  E := [9]
  K := (Kd.slice 9 Kd.string).K
  M := fun w base ok xs cs => ∃ A c, cs = [.slice A xs.length c] ∧ xs.length ≤ c ∧ Kd.F Kd.string w (fun k => ok k ∧ base ≤ k ∧ k < w.heap.size ∧ ∃ q, q ∈ [9] ∧ ∃ cells, w.heap[k]? = some (.cells cells q (0, 0))) A xs.length xs
  K_len := (Kd.slice 9 Kd.string).K_len
  K_one := (Kd.slice 9 Kd.string).K_one
  K_below := (Kd.slice 9 Kd.string).K_below
  K_of_M := by
    rintro w base ok x cs ⟨A, c, rfl, hl, hf⟩
    exact ⟨A, c, rfl, hl, Kd.F_now hf⟩
  M_mono := by
    rintro w base ok ok' x cs hok ⟨A, c, rfl, hl, hf⟩
    exact ⟨A, c, rfl, hl, Kd.F_mono hf (fun k hk => ⟨hok k hk.1, hk.2⟩)⟩
  M_bound := by
    rintro w base ok x cs ⟨A, c, rfl, hl, hf⟩
    exact ⟨A, c, rfl, hl, Kd.F_mono hf (fun k hk => ⟨hk, hk.2⟩)⟩
  M_move := by
    rintro w w1 base ok x cs hm ⟨A, c, rfl, hl, hf⟩
    refine ⟨A, c, rfl, hl, Kd.F_mono (Kd.F_step hf (fun k hk _ => hm k hk.1)) (fun k hk => ?_)⟩
    obtain ⟨h1, h2, h3, q, hq, cells, hc⟩ := hk
    have hc1 := (hm k h1).trans hc
    exact ⟨h1, h2, (Array.getElem?_eq_some_iff.1 hc1).1, q, hq, cells, hc1⟩
  M_lower := by
    rintro w base base' ok x cs hb ⟨A, c, rfl, hl, hf⟩
    exact ⟨A, c, rfl, hl, Kd.F_mono hf (fun k hk => ⟨hk.1, Nat.le_trans hb hk.2.1, hk.2.2⟩)⟩
section
variable {w w1 W : World} {base b n c m c' : Nat} {ok : Nat → Prop} {A : Option Addr} {v u v1 u1 : Value} {xs : List ByteArray} {Xs Ys Zs : List (List ByteArray)}
/-- The first of a row of the call's own. -/
theorem vw_take (h : Kd.string.R 9 w base ok (.slice A n c) xs) (hm : m ≤ xs.length) (hc : m ≤ c') : vw.M w base ok (xs.take m) [.slice A m c'] := by
  have hn := (Kd.R_reads' h).1
  subst hn
  have hl : (xs.take m).length = m := by rw [List.length_take]; omega
  refine ⟨A, c', by rw [hl], by rw [hl]; exact hc, ?_⟩
  exact Kd.F_take (Kd.R_F (Kd.R_bound h)) hm
theorem vw_all (h : Kd.string.R 9 w base ok (.slice A n c) xs) : vw.M w base ok xs [.slice A n c] := by
  have hn := (Kd.R_reads' h).1
  have hc := (Kd.R_reads' h).2.1
  have := vw_take (m := n) (c' := c) h (by omega) hc
  rwa [List.take_of_length_le (by omega)] at this
/-- Rows' own blocks are told by their types from what their elements lead to. -/
theorem vw_apart {x : List ByteArray} {cs : List Value} (h : vw.M w base ok x cs) (hu : Kd.R vw 22 w b (fun _ => True) u Ys) : vw.M w base (fun k => ok k ∧ some k ≠ u.ownBlock) x cs :=
  vw.M_mono (fun k hk => ⟨hk.1, fun e => by
    obtain ⟨_, _, _, q, hq, cells, hc⟩ := hk
    obtain ⟨inner, ho⟩ := Kd.R_own hu
    obtain ⟨cells', hc'⟩ := own_typed ho k e.symm
    rw [hc] at hc'
    injection hc' with hc'
    injection hc' with _ hc'
    obtain rfl := List.mem_singleton.1 hq
    exact absurd hc' (by decide)⟩) (vw.M_bound h)
theorem R_vw_apart (h : Kd.R vw 22 w base (fun _ => True) v Xs) (hu : Kd.R vw 22 w b (fun _ => True) u Ys) (hne : ∀ k, v.ownBlock = some k → u.ownBlock ≠ some k) : Kd.R vw 22 w base (fun k => some k ≠ u.ownBlock) v Xs := by
  obtain ⟨h0, inner, ho, hr⟩ := h
  exact ⟨fun k hk e => hne k hk e.symm, inner, ho, hr.imp_ (fun _ _ hp => vw.M_mono (fun k hk => ⟨hk.2, hk.1.2⟩) (vw_apart hp hu))⟩
/-- Behind an append to the other: this one lives on, and is still another. -/
theorem R_vw_other (h : Kd.R vw 22 w base (fun _ => True) v Xs) (hu : Kd.R vw 22 w b (fun _ => True) u Ys) (hne : ∀ k, v.ownBlock = some k → u.ownBlock ≠ some k) (hg : w.grownBy w1 u.ownBlock) (hat : u1.ownBlock = u.ownBlock ∨ ∃ b, u1.ownBlock = some b ∧ w.heap.size ≤ b) :
    Kd.R vw 22 w1 base (fun _ => True) v Xs ∧ ∀ k, v.ownBlock = some k → u1.ownBlock ≠ some k := by
  refine ⟨Kd.R_mono (Kd.R_grown (R_vw_apart h hu hne) hg (fun _ hk => hk)) (fun _ _ => trivial), fun k hk e => ?_⟩
  rcases hat with hat | ⟨q, hq, hle⟩
  · rw [hat] at e; exact hne k hk e
  · obtain ⟨inner, ho⟩ := Kd.R_own h
    have := own_lt ho k hk
    rw [hq] at e
    injection e with e
    omega
/-- A row of texts of the call's own, while a list of rows is written. -/
theorem R_str_other (h : Kd.string.R 9 w base ok v xs) (hu : Kd.R vw 22 w b (fun _ => True) u Ys) (hg : w.grownBy w1 u.ownBlock) : Kd.string.R 9 w1 base ok v xs :=
  Kd.R_mono (Kd.R_grown (ok := fun k => ok k ∧ some k ≠ u.ownBlock) (Kd.R_mono (Kd.R_bound h) (fun k hk => ⟨hk.1, fun e => by
    obtain ⟨_, _, _, q, hq, cells, hc⟩ := hk
    obtain ⟨inner, ho⟩ := Kd.R_own hu
    obtain ⟨cells', hc'⟩ := own_typed ho k e.symm
    rw [hc] at hc'
    injection hc' with hc'
    injection hc' with _ hc'
    have hq9 : q = 9 := by simpa [Kd.string, Kd.scalar] using hq
    rw [hq9] at hc'
    exact absurd hc' (by decide)⟩)) hg (fun _ hk => hk.2)) (fun _ hk => hk.1)
/-- A row of one text, just made. -/
theorem R_str_one (s : ByteArray) (hb : base ≤ w.heap.size) : Kd.string.R 9 (w.alloc (.cells #[.string s] 9)) base (fun _ => True) (.slice (some ⟨w.heap.size, 0, none⟩) 1 1) [s] := by
  refine ⟨fun _ _ => trivial, [.string s], ?_, ?_⟩
  · have h := World.ownsRow_lit (base := base) (e := 9) (size := 1) w #[.string s] 1 hb (by decide) (by simp)
    simpa [Kd.string, Kd.scalar] using h
  · refine ⟨rfl, fun i p hp => ?_⟩
    obtain ⟨hi, rfl⟩ := List.getElem?_eq_some_iff.1 hp
    have h0 : i = 0 := by simpa using hi
    subst h0
    rfl
theorem vw_C (h : Kd.R vw 22 w base ok (.slice A n c) Xs) : n = Xs.length ∧ n ≤ c ∧ (Kd.slice 9 Kd.string).C w A Xs.length Xs := by
  obtain ⟨h1, h2, h3⟩ := Kd.R_reads' h
  exact ⟨h1, h2, h3⟩
end
end Go.Proofs.YthmcapdakplhdaaDoor.Pr
